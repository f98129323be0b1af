/-
  Lemmas. No condition.
-/
import Derived.Test.YtgfllfooijgdfaaGreatDoorVd
import Derived.Test.YtgfllfooijgdfaaGreatDoorXk
import Derived.Test.YtgfllfooijgdfaaGreatDoorXj
import Derived.Test.YtgfllfooijgdfaaGreatDoorProg
set_option linter.unusedSimpArgs false
set_option linter.unusedVariables false
noncomputable section
namespace Go.Proofs.Tryz.Kn
open Go Go.CE Go.PE
abbrev prog:Program:=Tryz.prog
def zon:Nat→Bool:=fun g=>match g with|_=>false
abbrev redI:Red:=zus
def an0:Nat→Option LA:=fun _=>none
def zvS:Nat→List PA→Nat→Nat→Option LA:=fun _ _ _ _=>none
abbrev pF(O:Orc)(an:Nat→Option LA)(g:Nat)(args:List DA):Option DA:=zrg prog O zon (inl prog O zon zvS redI 1) an g args
def an3:Nat→Option LA:=fun i=>match i with|0=>some ⟨[.slot 8,.slot 7],[],[],[],[.slot 7],[],[],[],[]⟩|_=>none
def zrb(O:Orc)(b f:List DV)(a:List DV)(_t:List OC):Option PX:=za (jz (atD b 3)) fun g=>za (zy .lss (zJ a 0) g) fun h=>ifB h (za (jO 3 (atD b 3) (zJ a 0)) fun c=>za (jz (atD c 2)) fun j=>za (zy .gtr j (I6 0)) fun k=>ifB k (za (jO 2 (atD c 2) (I6 0)) fun l=>za (jO 6 (atD f 0) (atD l 0)) fun d=>bT [none,none] (O 7 [SA [atD b 1,atD b 2],SA [atD d 2,atD d 3]]) fun e=>ifB (zJ a 1) (za (zy .eql (dsO (zex e 1)) (I6 0)) fun m=>ifB m (za (jO 2 (atD c 2) (I6 0)) fun n=>za (zy .eql (dsO (zex e 0)) (atD n 1)) fun o=>za (zy .add (zJ a 0) (I6 1)) fun p=>some (.normal,[p,o],[])) (za (zy .add (zJ a 0) (I6 1)) fun q=>some (.normal,[q,.bool false],[]))) (za (zy .add (zJ a 0) (I6 1)) fun r=>some (.normal,[r,.bool false],[]))) (za (zy .add (zJ a 0) (I6 1)) fun s=>some (.normal,[s,zJ a 1],[]))) (some (.exit 0,[zJ a 1],[]))
def P3(O:Orc)(a b c d f h j m r s w y z aa ab ac ad ae af ag ah aj ak am an ap aq ar az au:DV):Option DA:=b1 (O 4 []) fun n=>za (zjZ n) fun o=>ifB o (some (S1 (.bool false))) (bA 3 (O 5 [SA [a,b,c,d,f,h,j,m,r,s,w]]) fun e=>bA 4 (O 6 [SA [atD e 0,atD e 1,atD e 2],SA [y,z,aa,ab,ac,ad,ae,af,ag,ah,aj,ak,am,an,ap,aq,ar,az,au],S1 (.str ⟨#[115]⟩)]) fun g=>wx (yC (zrb O g e) [I6 0,.bool true] []) (fun p k _q=>bif Nat.beq p 0 then (bT [none,none] (O 8 [SA [atD e 0,atD e 1,atD e 2],SA [atD g 0,atD g 1,atD g 2,atD g 3]]) fun l=>za (zy .eql (dsO (zex l 1)) (I6 0)) fun t=>ifB t (za (eqD 0 (dsO (zex l 0)) (zJ k 0)) fun v=>some (S1 (.bool v))) (some (S1 (.bool false)))) else(none)) (fun _k _q=>none))
theorem p3(O:Orc)(a b c d f h j m r s w y z aa ab ac ad ae af ag ah aj ak am an ap aq ar az au:DV):pF O an3 3 [SA [a,b,c,d,f,h,j,m,r,s,w],SA [y,z,aa,ab,ac,ad,ae,af,ag,ah,aj,ak,am,an,ap,aq,ar,az,au]]=P3 O a b c d f h j m r s w y z aa ab ac ad ae af ag ah aj ak am an ap aq ar az au:=by kernel_rfl
def an5:Nat→Option LA:=fun i=>match i with|0=>some ⟨[.slot 5,.cell 2 1,.cell 2 2],[(.cell 2 0,6)],[(2,3)],[],[.cell 2 1,.cell 2 2],[(.cell 2 0,6)],[.cell 2 0,.cell 2 1,.cell 2 2],[],[]⟩|1=>some ⟨[.slot 8,.cell 6 0,.cell 6 1,.cell 6 2,.cell 6 3,.cell 6 4],[(.cell 6 5,1)],[(6,6)],[],[.cell 6 0,.cell 6 1,.cell 6 2,.cell 6 3,.cell 6 4],[(.cell 6 5,1)],[.cell 6 0,.cell 6 1,.cell 6 2,.cell 6 3,.cell 6 4,.cell 6 5],[],[]⟩|_=>none
def zmg(a b c:DV)(f:Nat)(d:List DV)(e:List OC):Option PX:=za (zy .rem (atD [a,b,c] f) (U8 25)) fun g=>za (y6 .i64 g) fun h=>za (zy .add (I6 1) h) fun j=>za (zy .lss (zJ d 0) j) fun k=>ifB k (za (zy .rem (zJ d 0) (I6 3)) fun l=>za (zy .add (I6 1) l) fun m=>gd (fits 8 (zei (wE e 0)+1)) (za (zy .add (zJ d 0) (I6 1)) fun n=>some (.normal,[n,zJ d 1,zJ d 2,zJ d 3,zJ d 4,zJ d 5],[some (x4 (wE e 0)++[[m]])]))) (some (.exit 2,[zJ d 1,zJ d 2,zJ d 3,zJ d 4,zJ d 5],[wE e 0]))
def zvr(O:Orc)(a b c d f h j m r:DV)(e:List DV)(k:List OC):Option PX:=za (zy .lss (zJ e 0) (I6 3)) fun q=>ifB q (za (u6 3 (zJ e 0)) fun l=>za (y6 .u8 (zJ e 0)) fun s=>za (zy .add (U8 49) s) fun t=>za (zox (.lst 1 [[U8 114],[t]])) fun v=>bA 2 (O 17 [S1 (atD [a,b,c] l)]) fun o=>za (zy .rem (atD [d,f,h] l) (U8 40)) fun w=>za (y6 .i64 w) fun x=>za (zy .add (I6 30) x) fun y=>wx (yC (zmg j m r l) [I6 0,v,.str ⟨#[116]⟩,atD o 0,atD o 1,y] [none]) (fun n g p=>bif Nat.beq n 2 then (gd (fits 80 (zei (wE k 0)+1)) (za (zy .add (zJ e 0) (I6 1)) fun z=>some (.normal,[z,zJ e 1,zJ e 2],[some (x4 (wE k 0)++[[zJ g 0,zJ g 1,zJ g 2,zJ g 3,zJ g 4,mkL 1 (wE p 0)]])]))) else(bif Nat.beq n 1 then (za (zy .add (zJ e 0) (I6 1)) fun A=>some (.normal,[A,zJ e 1,zJ e 2],[wE k 0])) else(some (.exit n,[zJ e 1,zJ e 2],[wE k 0])))) (fun _g _p=>none)) (some (.exit 0,[zJ e 1,zJ e 2],[wE k 0]))
def P5(O:Orc)(a b c d f h j m r s w:DV):Option DA:=za (zy .rem s (U8 24)) fun l=>za (y6 .i64 l) fun n=>za (zy .add (I6 36) n) fun g=>za (zy .rem w (U8 16)) fun o=>za (y6 .i64 o) fun p=>za (zy .add g p) fun q=>wx (yC (zvr O a d j b f m c h r) [I6 0,g,q] [none]) (fun t e k=>bif Nat.beq t 0 then (some (SA [mkL 6 (wE k 0),zJ e 0,zJ e 1])) else(none)) (fun _e _k=>none)
theorem p5(O:Orc)(a b c d f h j m r s w:DV):pF O an5 5 [SA [a,b,c,d,f,h,j,m,r,s,w]]=P5 O a b c d f h j m r s w:=by kernel_rfl
def an6:Nat→Option LA:=fun i=>match i with|0=>some ⟨[.slot 9,.slot 8,.cell 3 0,.cell 3 1,.cell 3 2],[(.cell 3 3,3)],[(3,4)],[],[.cell 3 0,.cell 3 1,.cell 3 2],[(.cell 3 3,3)],[.cell 3 0,.cell 3 1,.cell 3 2,.cell 3 3],[],[]⟩|1=>some ⟨[.slot 13,.cell 6 0,.cell 6 1],[(.cell 6 2,2)],[(6,3)],[],[.cell 6 0,.cell 6 1],[(.cell 6 2,2)],[.cell 6 0,.cell 6 1,.cell 6 2],[],[]⟩|_=>none
def zeP(a b c:DV)(k:Nat)(d f h j m r s w y z aa ab ac:DV)(e:List DV)(g:List OC):Option PX:=za (zy .rem (atD [a,b,c] k) (U8 3)) fun p=>za (y6 .i64 p) fun q=>za (zy .lss (zJ e 0) q) fun t=>ifB t (za (jz d) fun v=>za (zy .gtr v (I6 0)) fun x=>ifB x (za (u6 2 (zJ e 0)) fun A=>za (y6 .i64 (atD [atD [f,h,j] k,atD [m,r,s] k] A)) fun B=>za (jz d) fun C=>za (zy .rem B C) fun l=>za (u6 2 (zJ e 0)) fun E=>za (y6 .i64 (atD [atD [w,y,z] k,atD [aa,ab,ac] k] E)) fun F=>za (zy .rem F (I6 25)) fun n=>za (zy .eql (zJ e 0) (I6 0)) fun G=>ifB G (gd (fits 16 (zei (wE g 0)+1)) (za (zy .add (zJ e 0) (I6 1)) fun H=>some (.normal,[H,zJ e 1,zJ e 2],[some (x4 (wE g 0)++[[l,n]])]))) (za (zcP (wE g 0) (I6 0)) fun J=>za (zsw (wE g 0) J) fun o=>za (zlL [1,1] [l,n] [atD o 0,atD o 1]) fun K=>ifB (.bool (!K)) (gd (fits 16 (zei (wE g 0)+1)) (za (zy .add (zJ e 0) (I6 1)) fun L=>some (.normal,[L,zJ e 1,zJ e 2],[some (x4 (wE g 0)++[[l,n]])]))) (za (zy .add (zJ e 0) (I6 1)) fun M=>some (.normal,[M,zJ e 1,zJ e 2],[wE g 0])))) (some (.exit 2,[zJ e 1,zJ e 2],[wE g 0]))) (some (.exit 2,[zJ e 1,zJ e 2],[wE g 0]))
def ztR(a b c d f h j m r s w y z aa ab ac ad ae af ag:DV)(e:List DV)(g:List OC):Option PX:=za (zy .lss (zJ e 0) (I6 3)) fun q=>ifB q (za (zy .leq (zJ e 1) a) fun t=>ifB t (za (u6 3 (zJ e 0)) fun k=>za (zy .rem (atD [b,c,d] k) (U8 16)) fun v=>za (y6 .i64 v) fun x=>za (zy .add (zJ e 1) x) fun A=>za (wW false A [a]) fun o=>wx (yC (zeP f h j k m r s w y z aa ab ac ad ae af ag) [I6 0,zJ e 1,o] [none]) (fun l n p=>bif Nat.beq l 2 then (gd (fits 40 (zei (wE g 0)+1)) (za (zy .add o (I6 1)) fun B=>za (y6 .i64 (atD [b,c,d] k)) fun C=>za (zy .quo C (I6 128)) fun E=>za (zy .add B E) fun F=>za (zy .add (zJ e 0) (I6 1)) fun G=>some (.normal,[G,F,zJ e 2,zJ e 3,zJ e 4],[some (x4 (wE g 0)++[[zJ n 0,zJ n 1,mkL 2 (wE p 0)]])]))) else(bif Nat.beq l 1 then (za (zy .add (zJ e 0) (I6 1)) fun H=>some (.normal,[H,zJ e 1,zJ e 2,zJ e 3,zJ e 4],[wE g 0])) else(some (.exit l,[zJ e 2,zJ e 3,zJ e 4],[wE g 0])))) (fun _n _p=>none)) (some (.exit 0,[zJ e 2,zJ e 3,zJ e 4],[wE g 0]))) (some (.exit 0,[zJ e 2,zJ e 3,zJ e 4],[wE g 0]))
def P6(O:Orc)(a b c d f h j m r s w y z aa ab ac ad ae af ag ah aj l:DV):Option DA:=bA 2 (O 17 [S1 d]) fun g=>wx (yC (ztR c f w ad h y ae a j z af m aa ag r ab ah s ac aj) [I6 0,b,l,atD g 0,atD g 1] [none]) (fun n e k=>bif Nat.beq n 0 then (some (SA [zJ e 0,zJ e 1,zJ e 2,mkL 3 (wE k 0)])) else(none)) (fun _e _k=>none)
theorem p6(O:Orc)(a b c d f h j m r s w y z aa ab ac ad ae af ag ah aj a2:DV):pF O an6 6 [SA [a,b,c],SA [d,f,h,j,m,r,s,w,y,z,aa,ab,ac,ad,ae,af,ag,ah,aj],S1 a2]=P6 O a b c d f h j m r s w y z aa ab ac ad ae af ag ah aj a2:=by kernel_rfl
def P7(O:Orc)(a b c d:DV):Option DA:=b1 (O 18 [SA [a,b],SA [c,d]]) fun e=>za (zy .neq e (I6 0)) fun f=>ifB f (some (.tup [.one (I6 0),.one e])) (b1 (O 19 [SA [a,b],SA [c,d]]) fun g=>some (.tup [.one g,.one (I6 0)]))
theorem p7(O:Orc)(a b c d:DV):pF O an0 7 [SA [a,b],SA [c,d]]=P7 O a b c d:=by kernel_rfl
def an8:Nat→Option LA:=fun i=>match i with|0=>some ⟨[.slot 20],[],[],[],[],[],[.slot 4,.slot 5],[],[]⟩|_=>none
def zru(O:Orc)(j a b c d:DV)(e:List DV)(_t:List OC):Option PX:=za (zy .lss (zJ e 0) j) fun k=>ifB k (za (jO 3 a (zJ e 0)) fun g=>za (jz (atD g 2)) fun l=>za (zy .eql l (I6 0)) fun m=>ifB m (za (zy .add (zJ e 0) (I6 1)) fun n=>some (.normal,[n],[])) (za (jO 2 (atD g 2) (I6 0)) fun o=>za (jO 6 b (atD o 0)) fun h=>bT [none,none] (O 7 [SA [c,d],SA [atD h 2,atD h 3]]) fun f=>za (zy .neq (dsO (zex f 1)) (I6 0)) fun p=>ifB p (some (.ret,[.bool false,dsO (zex f 1)],[])) (za (jO 2 (atD g 2) (I6 0)) fun q=>za (zy .neq (dsO (zex f 0)) (atD q 1)) fun r=>ifB r (some (.ret,[.bool false,dsO (zex f 1)],[])) (za (zy .add (zJ e 0) (I6 1)) fun s=>some (.normal,[s],[]))))) (some (.exit 0,[],[]))
def P8(O:Orc)(a b c d f h j:DV):Option DA:=b1 (O 20 [SA [a,b,c],SA [d,f,h,j]]) fun g=>za (zy .neq g (I6 0)) fun k=>ifB k (some (.tup [.one (.bool false),.one g])) (za (jz j) fun l=>wx (yC (zru O l j a f h) [I6 0] []) (fun m _e _n=>bif Nat.beq m 0 then (some (.tup [.one (.bool true),.one (I6 0)])) else(none)) (fun e _n=>some (.tup [.one (zJ e 0),.one (zJ e 1)])))
theorem p8(O:Orc)(a b c d f h j:DV):pF O an8 8 [SA [a,b,c],SA [d,f,h,j]]=P8 O a b c d f h j:=by kernel_rfl
def P17(O:Orc)(c:DV):Option DA:=b1 (O 33 []) fun a=>za (jz a) fun d=>za (zy .eql d (I6 0)) fun e=>ifB e (some (SA [I6 8,I6 1])) (za (y6 .i64 c) fun f=>za (jz a) fun g=>za (zy .rem f g) fun h=>za (jO 2 a h) fun b=>some (SA [atD b 0,atD b 1]))
theorem p17(O:Orc)(a0:DV):pF O an0 17 [S1 a0]=P17 O a0:=by kernel_rfl
def P18(O:Orc)(a b c d:DV):Option DA:=b1 (O 34 [SA [a,b]]) fun e=>za (zy .neq e (I6 0)) fun f=>ifB f (some (S1 e)) (b1 (O 34 [SA [c,d]]) fun g=>some (S1 g))
theorem p18(O:Orc)(a b c d:DV):pF O an0 18 [SA [a,b],SA [c,d]]=P18 O a b c d:=by kernel_rfl
def zv0:Nat→Option LA:=fun i=>match i with|0=>some ⟨[.slot 5,.slot 7],[],[],[],[.slot 5,.slot 7],[],[],[],[]⟩|1=>some ⟨[.slot 6,.slot 7],[],[],[],[.slot 6,.slot 7],[],[],[],[]⟩|2=>some ⟨[.slot 12,.slot 7],[],[],[],[.slot 7],[],[],[],[]⟩|_=>none
def zeR(O:Orc)(b:List DS)(a:List DV)(_g:List OC):Option PX:=b1 (O 38 [S1 (dsO (zex b 0)),S1 (zJ a 0)]) fun c=>za (zy .gtr c (I6 0)) fun d=>ifB d (za (zy .add (zJ a 1) (I6 1)) fun e=>b1 (O 37 [S1 (zJ a 0),S1 (.str ⟨#[52]⟩)]) fun f=>some (.normal,[f,e],[])) (some (.exit 4,[zJ a 1],[]))
def zcj(b:List DV)(a:List DV)(_g:List OC):Option PX:=za (zy .mul (I6 2) (zJ a 0)) fun c=>za (zy .geq (zJ b 0) c) fun d=>ifB d (za (zy .mul (zJ a 0) (I6 2)) fun e=>za (zy .add (zJ a 1) (I6 12)) fun f=>some (.normal,[e,f],[])) (some (.exit 2,[zJ a 0,zJ a 1],[]))
def zi1(b:DV)(a:List DV)(_f:List OC):Option PX:=za (zy .lss (zJ a 0) b) fun c=>ifB c (za (zy .mul (zJ a 0) (I6 2)) fun d=>za (zy .sub (zJ a 1) (I6 12)) fun e=>some (.normal,[d,e],[])) (some (.exit 0,[zJ a 0,zJ a 1],[]))
def P19(O:Orc)(a b c d:DV):Option DA:=za (zy .mul c b) fun j=>za (zy .mul d a) fun g=>wx (yC (zi1 g) [j,I6 0] []) (fun k e _l=>bif Nat.beq k 0 then (wx (yC (zcj e) [g,zJ e 1] []) (fun m f _n=>bif Nat.beq m 2 then (b1 (O 36 [S1 (zJ e 0)]) fun o=>bT [none,none] (O 35 [S1 o,S1 (I6 24)]) fun p=>b1 (O 36 [S1 (zJ f 0)]) fun q=>bT [none,none] (O 35 [S1 q,S1 (I6 24)]) fun r=>b1 (O 37 [S1 (dsO (zex r 0)),S1 (.str ⟨#[50]⟩)]) fun s=>wx (yC (zeR O p) [s,zJ f 1] []) (fun t h _v=>bif Nat.beq t 4 then (some (S1 (zJ h 0))) else(none)) (fun _h _v=>none)) else(none)) (fun _f _n=>none)) else(none)) (fun _e _l=>none)
theorem p19(O:Orc)(a b c d:DV):pF O zv0 19 [SA [a,b],SA [c,d]]=P19 O a b c d:=by kernel_rfl
def zvZ:Nat→Option LA:=fun i=>match i with|0=>some ⟨[.slot 38],[],[],[],[],[],[.slot 4],[],[]⟩|_=>none
def zeQ(O:Orc)(j a b c d:DV)(f:List DV)(_z:List OC):Option PX:=za (zy .lss (zJ f 0) j) fun k=>ifB k (za (jO 3 a (zJ f 0)) fun e=>za (wW false (atD e 0) [atD e 1]) fun l=>za (zy .lss l b) fun m=>ifB m (some (.ret,[I6 23],[])) (za (wW true (atD e 0) [atD e 1]) fun n=>za (zy .gtr n c) fun o=>ifB o (some (.ret,[I6 23],[])) (za (zy .gtr (atD e 0) (atD e 1)) fun p=>ifB p (some (.ret,[I6 6],[])) (za (zy .gtr (zJ f 0) (I6 0)) fun q=>ifB q (za (zy .sub (zJ f 0) (I6 1)) fun r=>za (jO 3 a r) fun s=>za (zy .leq (atD e 0) (atD s 1)) fun t=>ifB t (some (.ret,[I6 6],[])) (b1 (O 41 [SA [d,b,c],S1 (atD e 2)]) fun g=>za (zy .neq g (I6 0)) fun v=>ifB v (some (.ret,[g],[])) (za (zy .add (zJ f 0) (I6 1)) fun w=>some (.normal,[w],[])))) (b1 (O 41 [SA [d,b,c],S1 (atD e 2)]) fun h=>za (zy .neq h (I6 0)) fun x=>ifB x (some (.ret,[h],[])) (za (zy .add (zJ f 0) (I6 1)) fun y=>some (.normal,[y],[]))))))) (some (.exit 1,[],[]))
def P20(O:Orc)(a b c d f h j:DV):Option DA:=b1 (O 39 [SA [a,b,c]]) fun e=>za (zy .neq e (I6 0)) fun l=>ifB l (some (S1 e)) (b1 (O 40 [S1 d]) fun m=>za (zjZ m) fun n=>ifB n (some (S1 (I6 8))) (b1 (O 34 [SA [f,h]]) fun g=>za (zy .neq g (I6 0)) fun o=>ifB o (some (S1 g)) (za (jz j) fun p=>za (zy .eql p (I6 0)) fun q=>ifB q (some (S1 (I6 13))) (za (jz j) fun r=>za (zy .gtr r (I6 12)) fun s=>ifB s (some (S1 (I6 4))) (za (jz j) fun t=>wx (yC (zeQ O t j b c a) [I6 0] []) (fun v _k _w=>bif Nat.beq v 1 then (some (S1 (I6 0))) else(none)) (fun k _w=>some (S1 (zJ k 0))))))))
theorem p20(O:Orc)(a b c d f h j:DV):pF O zvZ 20 [SA [a,b,c],SA [d,f,h,j]]=P20 O a b c d f h j:=by kernel_rfl
def zvY:Nat→Option LA:=fun i=>match i with|0=>some ⟨[.slot 28],[(.slot 1,2)],[],[],[],[(.slot 1,2)],[],[],[]⟩|_=>none
def ztn(b:List DV)(c:List OC):Option PX:=za (zy .lss (zJ b 0) (I6 (Int.ofNat (zei (some [[I6 64,I6 1],[I6 32,I6 1],[I6 64,I6 3],[I6 16,I6 1],[I6 64,I6 5],[I6 32,I6 3],[I6 8,I6 1],[I6 32,I6 5],[I6 16,I6 3],[I6 4,I6 1],[I6 16,I6 5],[I6 8,I6 3],[I6 16,I6 7],[I6 2,I6 1],[I6 8,I6 5],[I6 4,I6 3],[I6 8,I6 7],[I6 1,I6 1],[I6 4,I6 5],[I6 2,I6 3],[I6 1,I6 2],[I6 1,I6 4]]))))) fun d=>ifB d (za (zcP (some [[I6 64,I6 1],[I6 32,I6 1],[I6 64,I6 3],[I6 16,I6 1],[I6 64,I6 5],[I6 32,I6 3],[I6 8,I6 1],[I6 32,I6 5],[I6 16,I6 3],[I6 4,I6 1],[I6 16,I6 5],[I6 8,I6 3],[I6 16,I6 7],[I6 2,I6 1],[I6 8,I6 5],[I6 4,I6 3],[I6 8,I6 7],[I6 1,I6 1],[I6 4,I6 5],[I6 2,I6 3],[I6 1,I6 2],[I6 1,I6 4]]) (zJ b 0)) fun e=>za (zsw (some [[I6 64,I6 1],[I6 32,I6 1],[I6 64,I6 3],[I6 16,I6 1],[I6 64,I6 5],[I6 32,I6 3],[I6 8,I6 1],[I6 32,I6 5],[I6 16,I6 3],[I6 4,I6 1],[I6 16,I6 5],[I6 8,I6 3],[I6 16,I6 7],[I6 2,I6 1],[I6 8,I6 5],[I6 4,I6 3],[I6 8,I6 7],[I6 1,I6 1],[I6 4,I6 5],[I6 2,I6 3],[I6 1,I6 2],[I6 1,I6 4]]) e) fun a=>gd (fits 16 (zei (wE c 0)+1)) (za (zy .add (zJ b 0) (I6 1)) fun f=>some (.normal,[f],[some (x4 (wE c 0)++[[atD [atD a 0,atD a 1] 0,atD [atD a 0,atD a 1] 1]])]))) (some (.exit 0,[],[wE c 0]))
def P33(_O:Orc):Option DA:=wx (yC ztn [I6 0] [none]) (fun b _c a=>bif Nat.beq b 0 then (some (S1 (mkL 2 (wE a 0)))) else(none)) (fun _c _a=>none)
theorem p33(O:Orc):pF O zvY 33 []=P33 O :=by kernel_rfl
def P34(O:Orc)(a b:DV):Option DA:=b1 (O 52 [SA [a,b]]) fun c=>za (zy .neq c (I6 0)) fun d=>ifB d (some (S1 (I6 2))) (za (zy .leq a (I6 0)) fun e=>ifB e (some (S1 (I6 3))) (za (zy .mul (I6 128) b) fun f=>za (zy .gtr a f) fun g=>ifB g (some (S1 (I6 3))) (za (zy .gtr b (I6 128)) fun h=>ifB h (some (S1 (I6 4))) (some (S1 (I6 0))))))
theorem p34(O:Orc)(a b:DV):pF O an0 34 [SA [a,b]]=P34 O a b:=by kernel_rfl
def zvX:Nat→Option LA:=fun i=>match i with|0=>some ⟨[.slot 13],[],[],[],[],[],[.slot 2],[],[]⟩|_=>none
def zmj(O:Orc)(e a:DV)(c:List DV)(_j:List OC):Option PX:=za (zy .lss (zJ c 0) e) fun f=>ifB f (za (jO 6 a (zJ c 0)) fun b=>b1 (O 62 [SA [atD b 0,atD b 1,atD b 2,atD b 3,atD b 4,atD b 5]]) fun d=>za (zy .neq d (I6 0)) fun g=>ifB g (some (.ret,[d],[])) (za (zy .add (zJ c 0) (I6 1)) fun h=>some (.normal,[h],[]))) (some (.exit 0,[],[]))
def P39(O:Orc)(a b c:DV):Option DA:=za (jz a) fun e=>za (zy .gtr e (I6 60)) fun f=>ifB f (some (S1 (I6 4))) (za (jz a) fun g=>wx (yC (zmj O g a) [I6 0] []) (fun h _d _j=>bif Nat.beq h 0 then (b1 (O 63 [SA [b,c]]) fun k=>some (S1 k)) else(none)) (fun d _j=>some (S1 (zJ d 0))))
theorem p39(O:Orc)(a b c:DV):pF O zvX 39 [SA [a,b,c]]=P39 O a b c:=by kernel_rfl
def zvW:Nat→Option LA:=fun i=>match i with|0=>some ⟨[.slot 3],[],[],[],[],[],[.slot 2],[],[]⟩|_=>none
def zmi(O:Orc)(c:DV)(a:List DV)(_q:List OC):Option PX:=za (zig c) fun d=>za (zy .lss (zJ a 0) d) fun e=>ifB e (za (qt c (zJ a 0)) fun b=>b1 (O 64 [S1 b]) fun f=>za (zjZ f) fun g=>ifB g (za (zy .lss b (U8 48)) fun h=>ifB h (za (zy .neq b (U8 95)) fun j=>ifB j (some (.ret,[.bool false],[])) (za (zy .add (zJ a 0) (I6 1)) fun k=>some (.normal,[k],[]))) (za (zy .gtr b (U8 57)) fun l=>ifB l (za (zy .neq b (U8 95)) fun m=>ifB m (some (.ret,[.bool false],[])) (za (zy .add (zJ a 0) (I6 1)) fun n=>some (.normal,[n],[]))) (za (zy .add (zJ a 0) (I6 1)) fun o=>some (.normal,[o],[])))) (za (zy .add (zJ a 0) (I6 1)) fun p=>some (.normal,[p],[]))) (some (.exit 0,[],[]))
def P40(O:Orc)(a:DV):Option DA:=za (zr7 .eql a (.str ⟨#[]⟩)) fun c=>ifB c (some (S1 (.bool false))) (za (zig a) fun d=>za (zy .gtr d (I6 32)) fun e=>ifB e (some (S1 (.bool false))) (za (qt a (I6 0)) fun f=>b1 (O 64 [S1 f]) fun g=>za (zjZ g) fun h=>ifB h (some (S1 (.bool false))) (wx (yC (zmi O a) [I6 1] []) (fun j _b _k=>bif Nat.beq j 0 then (some (S1 (.bool true))) else(none)) (fun b _k=>some (S1 (zJ b 0))))))
theorem p40(O:Orc)(a0:DV):pF O zvW 40 [S1 a0]=P40 O a0:=by kernel_rfl
def zvV:Nat→Option LA:=fun i=>match i with|0=>some ⟨[.slot 12],[],[],[],[],[],[.slot 4],[],[]⟩|_=>none
def zmh(O:Orc)(e d a:DV)(c:List DV)(_p:List OC):Option PX:=za (zy .lss (zJ c 0) e) fun f=>ifB f (za (jO 2 d (zJ c 0)) fun b=>za (zy .lss (atD b 0) (I6 0)) fun g=>ifB g (some (.ret,[I6 10],[])) (za (jz a) fun h=>za (zy .geq (atD b 0) h) fun j=>ifB j (some (.ret,[I6 10],[])) (za (zy .lss (atD b 1) (I6 (-127))) fun k=>ifB k (some (.ret,[I6 3],[])) (za (zy .gtr (atD b 1) (I6 127)) fun l=>ifB l (some (.ret,[I6 3],[])) (za (jN 2 d none (some (zJ c 0))) fun m=>b1 (O 42 [S1 m,SA [atD b 0,atD b 1]]) fun n=>ifB n (some (.ret,[I6 9],[])) (za (zy .add (zJ c 0) (I6 1)) fun o=>some (.normal,[o],[]))))))) (some (.exit 0,[],[]))
def P41(O:Orc)(a _b _c b:DV):Option DA:=za (jz b) fun d=>za (zy .gtr d (I6 8)) fun e=>ifB e (some (S1 (I6 4))) (za (jz b) fun f=>wx (yC (zmh O f b a) [I6 0] []) (fun g _c _h=>bif Nat.beq g 0 then (some (S1 (I6 0))) else(none)) (fun c _h=>some (S1 (zJ c 0))))
theorem p41(O:Orc)(a b c a1:DV):pF O zvV 41 [SA [a,b,c],S1 a1]=P41 O a b c a1:=by kernel_rfl
def P42(O:Orc)(c a b:DV):Option DA:=b1 (O 65 [S1 c,SA [a,b]]) fun d=>za (zy .geq d (I6 0)) fun e=>some (S1 e)
theorem p42(O:Orc)(a0 a b:DV):pF O an0 42 [S1 a0,SA [a,b]]=P42 O a0 a b:=by kernel_rfl
def P52(O:Orc)(a b:DV):Option DA:=za (zy .leq b (I6 0)) fun c=>ifB c (some (S1 (I6 2))) (za (zy .gtr b (I6 1000000)) fun d=>ifB d (some (S1 (I6 2))) (za (zy .lss a (I6 (-1000000))) fun e=>ifB e (some (S1 (I6 2))) (za (zy .gtr a (I6 1000000)) fun f=>ifB f (some (S1 (I6 2))) (b1 (O 72 [S1 a]) fun g=>za (y6 .u64 b) fun h=>b1 (O 71 [S1 g,S1 h]) fun j=>za (zy .neq j (U64 1)) fun k=>ifB k (some (S1 (I6 2))) (some (S1 (I6 0)))))))
theorem p52(O:Orc)(a b:DV):pF O an0 52 [SA [a,b]]=P52 O a b:=by kernel_rfl
def P62(O:Orc)(a b c d f h:DV):Option DA:=b1 (O 40 [S1 a]) fun g=>za (zjZ g) fun j=>ifB j (some (S1 (I6 8))) (b1 (O 40 [S1 b]) fun k=>za (zjZ k) fun l=>ifB l (some (S1 (I6 8))) (b1 (O 34 [SA [c,d]]) fun e=>za (zy .neq e (I6 0)) fun m=>ifB m (some (S1 e)) (b1 (O 84 [S1 f]) fun n=>za (zjZ n) fun o=>ifB o (some (S1 (I6 3))) (za (jz h) fun p=>za (zy .eql p (I6 0)) fun q=>ifB q (some (S1 (I6 13))) (za (jz h) fun r=>za (zy .gtr r (I6 128)) fun s=>ifB s (some (S1 (I6 4))) (b1 (O 85 [S1 h]) fun t=>some (S1 t)))))))
theorem p62(O:Orc)(a b c d f h:DV):pF O an0 62 [SA [a,b,c,d,f,h]]=P62 O a b c d f h:=by kernel_rfl
def P63(_O:Orc)(a b:DV):Option DA:=za (zy .lss a (I6 0)) fun c=>ifB c (some (S1 (I6 3))) (za (zy .gtr b (I6 127)) fun d=>ifB d (some (S1 (I6 3))) (za (zy .gtr a b) fun e=>ifB e (some (S1 (I6 23))) (some (S1 (I6 0)))))
theorem p63(O:Orc)(a b:DV):pF O an0 63 [SA [a,b]]=P63 O a b:=by kernel_rfl
def P64(_O:Orc)(a:DV):Option DA:=za (zy .geq a (U8 65)) fun b=>ifB b (za (zy .leq a (U8 90)) fun c=>ifB c (some (S1 (.bool true))) (za (zy .geq a (U8 97)) fun d=>ifB d (za (zy .leq a (U8 122)) fun e=>some (S1 e)) (some (S1 (.bool false))))) (za (zy .geq a (U8 97)) fun f=>ifB f (za (zy .leq a (U8 122)) fun g=>some (S1 g)) (some (S1 (.bool false))))
theorem p64(O:Orc)(a0:DV):pF O an0 64 [S1 a0]=P64 O a0:=by kernel_rfl
def zvU:Nat→Option LA:=fun i=>match i with|0=>some ⟨[.slot 8],[],[],[],[],[],[.slot 4],[],[]⟩|_=>none
def zmf(e f a b:DV)(c:List DV)(_k:List OC):Option PX:=za (zy .lss (zJ c 0) e) fun g=>ifB g (za (jO 2 f (zJ c 0)) fun d=>za (zlL [1,1] [a,b] [atD d 0,atD d 1]) fun h=>ifB (.bool h) (some (.ret,[zJ c 0],[])) (za (zy .add (zJ c 0) (I6 1)) fun j=>some (.normal,[j],[]))) (some (.exit 0,[],[]))
def P65(_O:Orc)(c a b:DV):Option DA:=za (jz c) fun e=>wx (yC (zmf e c a b) [I6 0] []) (fun f _d _g=>bif Nat.beq f 0 then (some (S1 (I6 (-1)))) else(none)) (fun d _g=>some (S1 (zJ d 0)))
theorem p65(O:Orc)(a0 a b:DV):pF O zvU 65 [S1 a0,SA [a,b]]=P65 O a0 a b:=by kernel_rfl
def zvT:Nat→Option LA:=fun i=>match i with|0=>some ⟨[.slot 1,.slot 0],[],[],[],[.slot 0],[],[],[],[]⟩|_=>none
def zof(a:List DV)(_d:List OC):Option PX:=za (zy .gtr (zJ a 0) (U64 0)) fun b=>ifB b (za (zy .rem (zJ a 1) (zJ a 0)) fun c=>some (.normal,[c,zJ a 0],[])) (some (.exit 0,[zJ a 1],[]))
def P71(_O:Orc)(b c:DV):Option DA:=wx (yC zof [c,b] []) (fun d a _e=>bif Nat.beq d 0 then (some (S1 (zJ a 0))) else(none)) (fun _a _e=>none)
theorem p71(O:Orc)(a0 a1:DV):pF O zvT 71 [S1 a0,S1 a1]=P71 O a0 a1:=by kernel_rfl
def P72(_O:Orc)(a:DV):Option DA:=za (zy .lss a (I6 0)) fun b=>ifB b (za (y6 .u64 a) fun c=>za (zsb c) fun d=>some (S1 d)) (za (y6 .u64 a) fun e=>some (S1 e))
theorem p72(O:Orc)(a0:DV):pF O an0 72 [S1 a0]=P72 O a0:=by kernel_rfl
def P84(_O:Orc)(a:DV):Option DA:=za (zy .geq a (I6 (-256))) fun b=>ifB b (za (zy .leq a (I6 256)) fun c=>some (S1 c)) (some (S1 (.bool false)))
theorem p84(O:Orc)(a0:DV):pF O an0 84 [S1 a0]=P84 O a0:=by kernel_rfl
def P85(O:Orc)(a:DV):Option DA:=b1 (O 105 [S1 a,S1 (.fn 106 [])]) fun b=>ifB b (some (S1 (I6 3))) (some (S1 (I6 0)))
theorem p85(O:Orc)(a0:DV):pF O an0 85 [S1 a0]=P85 O a0:=by kernel_rfl
def zvn(O:Orc)(a b:DV):Option DA:=b1 (O 120 [S1 a,S1 b]) fun c=>za (zy .geq c (I6 0)) fun d=>some (S1 d)
theorem zv9(O:Orc)(a0 a1:DV):pF O an0 105 [S1 a0,S1 a1]=zvn O a0 a1:=by kernel_rfl
def zvm(_O:Orc)(a:DV):Option DA:=za (zy .lss a (I6 0)) fun b=>ifB b (some (S1 (.bool true))) (za (zy .gtr a (I6 1000000)) fun c=>some (S1 c))
theorem zv8(O:Orc)(a0:DV):pF O an0 106 [S1 a0]=zvm O a0:=by kernel_rfl
def ztj:Nat→Option LA:=fun i=>match i with|0=>some ⟨[.slot 8],[],[],[],[],[],[.slot 4],[],[]⟩|_=>none
def zeS(O:Orc)(b c d:DV)(a:List DV)(_j:List OC):Option PX:=za (zy .lss (zJ a 0) b) fun e=>ifB e (za (jO 1 c (zJ a 0)) fun f=>b1 (zmd O d [S1 (atD f 0)]) fun g=>ifB g (some (.ret,[zJ a 0],[])) (za (zy .add (zJ a 0) (I6 1)) fun h=>some (.normal,[h],[]))) (some (.exit 0,[],[]))
def zvl(O:Orc)(a c:DV):Option DA:=za (jz a) fun d=>wx (yC (zeS O d a c) [I6 0] []) (fun e _b _f=>bif Nat.beq e 0 then (some (S1 (I6 (-1)))) else(none)) (fun b _f=>some (S1 (zJ b 0)))
theorem zv7(O:Orc)(a0 a1:DV):pF O ztj 120 [S1 a0,S1 a1]=zvl O a0 a1:=by kernel_rfl
def anT(g:Nat):Nat→Option LA:=match g with
 |3=>an3
 |5=>an5
 |6=>an6
 |8=>an8
 |19=>zv0
 |20=>zvZ
 |33=>zvY
 |39=>zvX
 |40=>zvW
 |41=>zvV
 |65=>zvU
 |71=>zvT
 |120=>ztj
 |_=>an0
def zvR(g:Nat):Nat→List PA→Nat→Nat→Option LA:=match g with
 |_=>zvS
end Go.Proofs.Tryz.Kn
end
section
namespace Go.Proofs.Tryz.Kn
open Go Go.CE Go.PE
theorem zr4{sums:List CE.Sum}:zq6 zon redI (fun n=>zM (zH prog) (cFs (yS prog)) sums redI.s n):=by intro N g g' l l' vs e;cases e
end Go.Proofs.Tryz.Kn
end
noncomputable section
namespace Go.Proofs.Tryz.Kn
open Go Go.CE Go.PE
def zqC:List CE.Sum:=[kSum15]
theorem znG:∀s∈zqC,kH Tryz.prog s:=by
 intro s hs;simp only[zqC,YzL,YzK,or_false]at hs;rcases hs with rfl
 ·exact zli
def bSums:List CE.Sum:=zqC++ve
theorem zn8:∀s∈bSums,kH Tryz.prog s:=zn5 znG zjs
def bIds:List Nat:=[4,35,36,37,38]
theorem zmb:bSums.all (fun s=>bIds.any (Nat.beq s.g))=true:=by kernel_rfl
theorem zf9{g:Nat}(h:bIds.any (Nat.beq g)=false):∀s∈bSums,Nat.beq g s.g=false:=by
 intro s hs;have h1:=YzF.1 zmb s hs;cases hb:Nat.beq g s.g with
 |false=>rfl
 |true=>rw[←Lz1 hb,h]at h1;cases h1
theorem ziZ{g:Nat}(h:bIds.any (Nat.beq g)=false):bSums.all (fun s=>!Nat.beq g s.g)=true:=
 YzF.2 fun s hs=>by rw[zf9 h s hs];rfl
def B:Orc:=zrG bIds bSums
theorem ztp{g:Nat}(h:bIds.any (Nat.beq g)=false)(args:List DA):B g args=none:=by unfold B zrG;rw[h];rfl
def D(k:Nat):Orc:=deep prog bSums B anT zon zvR redI 1 k
theorem dF{k g:Nat}{args:List DA}{x:Option DA}(h:bIds.any (Nat.beq g)=false)(hr:(redI.s g).isNone=true)(e:zrg prog (D k) zon (inl prog (D k) zon (zvR g) redI 1) (anT g) g args=x):D (k+1) g args=x:=(zlT (ztp h _) (ziZ h) hr).trans e
theorem zmD:∀g,zon g=true→∀s∈bSums,Nat.beq g s.g=false:=by intro g hg;cases hg
theorem zo6:∀g,zon g=true→Nat.ble zl9 g=false:=by intro g hg;cases hg
theorem zwS(k:Nat):uQ (D k) (fun n=>zM (zH prog) (cFs (yS prog)) bSums redI.s n):=zfV zr4 zmD zo6 (zo8 (by kernel_rfl)) k
theorem zpa:∀g t,redI.s g=some t→zob prog g t:=by intro g t e;cases e
theorem D4(k:Nat):D k 4 []=some (S1 (.bool true)):=zez (by kernel_rfl)
theorem D3(k:Nat)(a b c d f h j m r s w y z aa ab ac ad ae af ag ah aj ak am an ap aq ar az au:DV):D (k+1) 3 [SA [a,b,c,d,f,h,j,m,r,s,w],SA [y,z,aa,ab,ac,ad,ae,af,ag,ah,aj,ak,am,an,ap,aq,ar,az,au]]=P3 (D k) a b c d f h j m r s w y z aa ab ac ad ae af ag ah aj ak am an ap aq ar az au:=dF rfl rfl (p3 ..)
theorem D5(k:Nat)(a b c d f h j m r s w:DV):D (k+1) 5 [SA [a,b,c,d,f,h,j,m,r,s,w]]=P5 (D k) a b c d f h j m r s w:=dF rfl rfl (p5 ..)
theorem D6(k:Nat)(a b c d f h j m r s w y z aa ab ac ad ae af ag ah aj a2:DV):D (k+1) 6 [SA [a,b,c],SA [d,f,h,j,m,r,s,w,y,z,aa,ab,ac,ad,ae,af,ag,ah,aj],S1 a2]=P6 (D k) a b c d f h j m r s w y z aa ab ac ad ae af ag ah aj a2:=dF rfl rfl (p6 ..)
theorem D7(k:Nat)(a b c d:DV):D (k+1) 7 [SA [a,b],SA [c,d]]=P7 (D k) a b c d:=dF rfl rfl (p7 ..)
theorem D8(k:Nat)(a b c d f h j:DV):D (k+1) 8 [SA [a,b,c],SA [d,f,h,j]]=P8 (D k) a b c d f h j:=dF rfl rfl (p8 ..)
theorem D17(k:Nat)(a0:DV):D (k+1) 17 [S1 a0]=P17 (D k) a0:=dF rfl rfl (p17 ..)
theorem D18(k:Nat)(a b c d:DV):D (k+1) 18 [SA [a,b],SA [c,d]]=P18 (D k) a b c d:=dF rfl rfl (p18 ..)
theorem D19(k:Nat)(a b c d:DV):D (k+1) 19 [SA [a,b],SA [c,d]]=P19 (D k) a b c d:=dF rfl rfl (p19 ..)
theorem D20(k:Nat)(a b c d f h j:DV):D (k+1) 20 [SA [a,b,c],SA [d,f,h,j]]=P20 (D k) a b c d f h j:=dF rfl rfl (p20 ..)
theorem D33(k:Nat):D (k+1) 33 []=P33 (D k) :=dF rfl rfl (p33 ..)
theorem D34(k:Nat)(a b:DV):D (k+1) 34 [SA [a,b]]=P34 (D k) a b:=dF rfl rfl (p34 ..)
theorem D39(k:Nat)(a b c:DV):D (k+1) 39 [SA [a,b,c]]=P39 (D k) a b c:=dF rfl rfl (p39 ..)
theorem D40(k:Nat)(a0:DV):D (k+1) 40 [S1 a0]=P40 (D k) a0:=dF rfl rfl (p40 ..)
theorem D41(k:Nat)(a b c a1:DV):D (k+1) 41 [SA [a,b,c],S1 a1]=P41 (D k) a b c a1:=dF rfl rfl (p41 ..)
theorem D42(k:Nat)(a0 a b:DV):D (k+1) 42 [S1 a0,SA [a,b]]=P42 (D k) a0 a b:=dF rfl rfl (p42 ..)
theorem D52(k:Nat)(a b:DV):D (k+1) 52 [SA [a,b]]=P52 (D k) a b:=dF rfl rfl (p52 ..)
theorem D62(k:Nat)(a b c d f h:DV):D (k+1) 62 [SA [a,b,c,d,f,h]]=P62 (D k) a b c d f h:=dF rfl rfl (p62 ..)
theorem D63(k:Nat)(a b:DV):D (k+1) 63 [SA [a,b]]=P63 (D k) a b:=dF rfl rfl (p63 ..)
theorem D64(k:Nat)(a0:DV):D (k+1) 64 [S1 a0]=P64 (D k) a0:=dF rfl rfl (p64 ..)
theorem D65(k:Nat)(a0 a b:DV):D (k+1) 65 [S1 a0,SA [a,b]]=P65 (D k) a0 a b:=dF rfl rfl (p65 ..)
theorem D71(k:Nat)(a0 a1:DV):D (k+1) 71 [S1 a0,S1 a1]=P71 (D k) a0 a1:=dF rfl rfl (p71 ..)
theorem D72(k:Nat)(a0:DV):D (k+1) 72 [S1 a0]=P72 (D k) a0:=dF rfl rfl (p72 ..)
theorem D84(k:Nat)(a0:DV):D (k+1) 84 [S1 a0]=P84 (D k) a0:=dF rfl rfl (p84 ..)
theorem D85(k:Nat)(a0:DV):D (k+1) 85 [S1 a0]=P85 (D k) a0:=dF rfl rfl (p85 ..)
theorem zwV(k:Nat)(a0 a1:DV):D (k+1) 105 [S1 a0,S1 a1]=zvn (D k) a0 a1:=dF rfl rfl (zv9 ..)
theorem zwU(k:Nat)(a0:DV):D (k+1) 106 [S1 a0]=zvm (D k) a0:=dF rfl rfl (zv8 ..)
theorem zwT(k:Nat)(a0 a1:DV):D (k+1) 120 [S1 a0,S1 a1]=zvl (D k) a0 a1:=dF rfl rfl (zv7 ..)
end Go.Proofs.Tryz.Kn
end
section
namespace Go.Proofs.Tryz.Kn
open Go Go.CE Go.PE
theorem zhH:∀(l:List UInt8) (i:Nat),zf6 l i=(l[i]?).map fun c=>U8 (c.toNat:Int)
 | [],i=>by simp[zf6]
 |c::l,0=>rfl
 |c::l,i+1=>by show zf6 l i=_;rw[zhH l i];simp
theorem zd5(s:ByteArray)(k:IntKind)(i:Nat):qt (.str s) (.int k (i:Int))=(s.data.toList[i]?).map fun c=>U8 (c.toNat:Int):=zhH _ _
theorem zcx(s:ByteArray):s.size=s.data.toList.length:=(Array.length_toList (xs:=s.data)).symm
theorem zmY(a b:ByteArray):zr7 .eql (.str a) (.str b)=some (.bool (a.data.toList==b.data.toList)):=rfl
def zaM(n:Int):Bool:=(decide (65≤n)&&decide (n≤90))||(decide (97≤n)&&decide (n≤122))
theorem t64(k:Nat)(n:Int):D (k+1) 64 [S1 (U8 n)]=some (S1 (Bo (zaM n))):=by rw[D64];unfold P64 zaM;by_cases h1:65≤n<;>by_cases h2:n≤90<;>by_cases h3:97≤n<;>by_cases h4:n≤122<;>simp[h1,h2,h3,h4]
def ziW(n:Int):Bool:=zaM n||(decide (48≤n)&&decide (n≤57))||decide (n=95)
def isName(s:ByteArray):Bool:=
 match s.data.toList with
 | []=>false
 |c::l=>decide (l.length≤31)&&zaM (c.toNat:Int)&&l.all fun c=>ziW (c.toNat:Int)
theorem l40(k:Nat)(s:ByteArray)(hs:s.data.toList.length≤1000):∀(r:List UInt8) (i:Nat),s.data.toList.drop i=r→
  yC (zmi (D (k+1)) (.str s)) [I6 (i:Int)] []=some (if r.all (fun c=>ziW (c.toNat:Int)) then(.exit 0,[],[]) else(.ret,[Bo false],[])):=by
 intro r
 induction r with
 |nil=>grind[zF,wN,zmi,z8,zas,zf,zI,zcx,qJ,zK]
 |cons c r ih=>
  intro i h;have h1:=ur h;have h2:(i:Int)<(s.data.toList.length:Int):=by omega
  have ea:zy .add (I6 (i:Int)) (I6 1)=some (I6 ((i+1:Nat):Int)):=wD;have ix:qt (.str s) (I6 (i:Int))=some (U8 (c.toNat:Int)):=by rw[zd5,uX h];rfl
  have body:zmi (D (k+1)) (.str s) [I6 (i:Int)] []=some (if ziW (c.toNat:Int) then(.normal,[I6 ((i+1:Nat):Int)],[]) else(.ret,[Bo false],[])):=by
   simp only[zmi,z8,zas,zf,zI,zK,zcx,zix h1,if_true,ix,t64,yL,vg,ea,xf,yl]
   grind[ziW]
  cases hc:ziW (c.toNat:Int) with
  |true=>rw[hc]at body;rw[yh body,ih (i+1) (xU h)];simp[hc]
  |false=>grind[yp]
theorem t40(k:Nat)(s:ByteArray):D (k+2) 40 [S1 (St s)]=some (S1 (Bo (isName s))):=by
 rw[D40];unfold P40 isName;simp only[zmY,zf,zK,zas,yl,zcx];cases hl:s.data.toList with
 |nil=>rfl
 |cons c l=>
  have ix:qt (.str s) (I6 0)=some (U8 (c.toNat:Int)):=by grind[zd5]
  simp only[ix,zf,t64,yL,vg,zK];rw[show ((c::l:List UInt8)==(ByteArray.mk #[]).data.toList)=false from rfl];by_cases h1:l.length≤31
  ·have h2:¬(32<((c::l).length:Int)):=by grind
   simp only[h2,h1,decide_true,decide_false,Yz4,Yzk,if_false];cases zaM (c.toNat:Int) with
   |false=>rfl
   |true=>have:=l40 k s (by grind) l 1 (by grind);simp only[Yyd,Yzk,if_false,Yz4];rw[show (I6 1:DV)=I6 ((1:Nat):Int) from rfl,this];cases l.all fun c=>ziW (c.toNat:Int)<;>rfl
  ·grind
def right(a b:Int):Int:=if a<0 then 3 else if 127<b then 3 else if b<a then 23 else 0
theorem t63(k:Nat)(a b:Int):D (k+1) 63 [SA [I6 a,I6 b]]=some (S1 (I6 (right a b))):=by rw[D63];unfold P63 right;by_cases h1:a<0<;>by_cases h2:127<b<;>by_cases h3:b<a<;>simp[h1,h2,h3]
theorem l71(_O:Orc):∀(b a:Nat),yC (zof) [U64 (b:Int),U64 (a:Int)] []=some (.exit 0,[U64 ((Nat.gcd b a:Nat):Int)],[]):=by
 intro b
 induction b using Nat.strongRecOn with
 |ind b ih=>
  intro a;by_cases hb:0<b
  ·have hz:(b:Int)≠0:=by omega
   have h0:(0:Int)<(b:Int):=by omega
   rw[yh (L':=[U64 ((a % b:Nat):Int),U64 (b:Int)]) (M':=[]) (by simp only[zof,z8,yO,yl,zf,zK,qV _ _ _ hz,h0,decide_true,if_true];rfl),ih (a % b) (Yzz _ hb) b,←Nat.gcd_rec]
  ·have:b=0:=by omega
   subst this;exact zF (by simp[zof])
theorem t71(k:Nat)(a b:Nat):D (k+1) 71 [S1 (U64 (a:Int)),S1 (U64 (b:Int))]=some (S1 (U64 ((Nat.gcd b a:Nat):Int))):=by rw[D71];unfold P71;rw[l71 B];rfl
theorem zs8{k:IntKind}{n:Nat}(h:n≤18446744073709551615):y6 .u64 (.int k (n:Int))=some (U64 (n:Int)):=by
 show some (DV.int .u64 (bif Nat.ble n 18446744073709551615 then .ofNat n else IntKind.wrap .u64 (.ofNat n)))=_
 grind[Yze]
theorem t72(k:Nat){a:Int}(h1:-1000000≤a)(h2:a≤1000000):D (k+1) 72 [S1 (I6 a)]=some (S1 (U64 (a.natAbs:Int))):=by
 rw[D72];unfold P72;by_cases h:a<0
 ·obtain⟨n,rfl⟩:∃n:Nat,a=-(n:Int):=⟨a.natAbs,by omega⟩;have e1:y6 .u64 (I6 (-(n:Int)))=some (U64 (18446744073709551616-(n:Int))):=by
   show some (DV.int .u64 (x6 .u64 (-(n:Int))))=_
   grind[zrw]
  have e2:x6 .u64 (-(18446744073709551616-(n:Int)))=(n:Int):=by grind[zrw]
  simp_all
 ·obtain⟨n,rfl⟩:∃n:Nat,a=(n:Int):=⟨a.natAbs,by omega⟩;simp only[zI,zf,zK,h,decide_false,Yzk,if_false,zs8 (show n≤18446744073709551615 by omega)];simp
def zaY(n d:Int):Int:=if d≤0 then 2 else if 1000000<d then 2 else if n < -1000000 then 2 else if 1000000<n then 2 else bif Nat.gcd d.toNat n.natAbs==1 then 0 else 2
theorem t52(k:Nat)(n d:Int):D (k+2) 52 [SA [I6 n,I6 d]]=some (S1 (I6 (zaY n d))):=by
 rw[D52];unfold P52 zaY;simp only[uT,yl,zI,zf,zK,Yz0];by_cases h1:d≤0
 ·grind
 by_cases h2:1000000<d
 ·grind
 by_cases h3:n < -1000000
 ·grind
 by_cases h4:1000000<n
 ·grind
 obtain⟨m,rfl⟩:∃m:Nat,d=(m:Int):=⟨d.toNat,by omega⟩;simp only[h1,h2,h3,h4,if_false];rw[t72 k (by omega) (by omega)];simp only[yL,zs8 (show m≤18446744073709551615 by omega),zf,t71,xf,zK,Int.toNat_natCast]
 grind
def xG(n d:Int):Int:=if zaY n d≠0 then 2 else if n≤0 then 3 else if 128*d<n then 3 else if 128<d then 4 else 0
theorem t34(k:Nat)(n d:Int):D (k+3) 34 [SA [I6 n,I6 d]]=some (S1 (I6 (xG n d))):=by
 rw[D34];unfold P34 xG;rw[t52];simp only[yL,xf,zf,zK];by_cases h:zaY n d=0
 ·have hd:0<d∧d≤1000000:=by
   grind[zaY]
  simp only[h,uT,zf,zK,zfn (show (-9223372036854775808:Int)≤128*d by omega) (show 128*d≤9223372036854775807 by omega),yl,Yz0]
  grind
 ·simp[h]
theorem t84(k:Nat)(n:Int):D (k+1) 84 [S1 (I6 n)]=some (S1 (Bo (decide (-256≤n)&&decide (n≤256)))):=by rw[D84];unfold P84;by_cases h1:-256≤n<;>by_cases h2:n≤256<;>simp[h1,h2]
def xC(n:Int):Bool:=decide (n<0)||decide (1000000<n)
theorem t106(k:Nat)(n:Int):D (k+1) 106 [S1 (I6 n)]=some (S1 (Bo (xC n))):=by rw[zwU];unfold zvm xC;by_cases h1:n<0<;>by_cases h2:1000000<n<;>simp[h1,h2]
theorem zti(O:Orc)(g:Nat)(ds:List DA):zmd O (.fn g []) ds=O g ds:=by simp[zmd]
def ki{α:Type}(p:α→Bool):List α→Nat→Option Nat
 | [],_=>none
 |x::l,i=>if p x then some i else ki p l (i+1)
theorem uz{α:Type}(p:α→Bool):∀(l:List α) (i:Nat),(ki p l i).isSome=l.any p
 | [],_=>rfl
 |x::l,i=>by
  simp only[ki,List.any_cons];cases h:p x
  ·simp[uz p l (i+1)]
  ·simp
def found:Option Nat→PX
 |some i=>(.ret,[I6 (i:Int)],[])
 |none=>(.exit 0,[],[])
abbrev enW(n:Int):List DV:=[I6 n]
theorem zwg(k:Nat)(w:Sl Int)(hw:w.els.length≤9223372036854775807):∀(r:List Int) (i:Nat),w.els.drop i=r→
  yC (zeS (D (k+1)) (I6 (w.els.length:Int)) (enL 1 enW w) (.fn 106 [])) [I6 (i:Int)] []=some (found (ki xC r i)):=by
 intro r
 induction r with
 |nil=>
  intro i h;refine zF ?_
  grind[zeS,z8,zI,zf,qJ,wN,zK]
 |cons x r ih=>
  intro i h;have h1:=ur h;have ea:zy .add (I6 (i:Int)) (I6 1)=some (I6 ((i+1:Nat):Int)):=wD;have body:zeS (D (k+1)) (I6 (w.els.length:Int)) (enL 1 enW w) (.fn 106 []) [I6 (i:Int)] []=some (if xC x then(.ret,[I6 (i:Int)],[]) else(.normal,[I6 ((i+1:Nat):Int)],[])):=by
   simp only[zeS,z8,zI,zf,zix h1,zK,if_true,wl h,uM,zti,t106,yL,ea]
   grind
  grind[yp,ki,found,yh,xU]
theorem t120(k:Nat)(w:Sl Int)(hw:w.els.length≤9223372036854775807):D (k+2) 120 [S1 (enL 1 enW w),S1 (.fn 106 [])]=some (S1 (I6 (match ki xC w.els 0 with|some i=>(i:Int)|none=>-1))):=by rw[zwT];unfold zvl;have:=zwg k w hw w.els 0 rfl;simp only[yy,zf];rw[show (I6 0:DV)=I6 ((0:Nat):Int) from rfl,this];cases ki xC w.els 0<;>rfl
theorem t105(k:Nat)(w:Sl Int)(hw:w.els.length≤9223372036854775807):D (k+3) 105 [S1 (enL 1 enW w),S1 (.fn 106 [])]=some (S1 (Bo (w.els.any xC))):=by rw[zwV];unfold zvn;rw[t120 k w hw,←uz xC w.els 0];cases ki xC w.els 0<;>simp_all
theorem t85(k:Nat)(w:Sl Int)(hw:w.els.length≤9223372036854775807):D (k+4) 85 [S1 (enL 1 enW w)]=some (S1 (I6 (if w.els.any xC then 3 else 0))):=by rw[D85];unfold P85;rw[t105 k w hw];cases w.els.any xC<;>rfl
structure Zn where
 name:ByteArray
 tone:ByteArray
 num:Int
 den:Int
 first:Int
 wind:Sl Int
def enR(r:Zn):List DV:=[St r.name,St r.tone,I6 r.num,I6 r.den,I6 r.first,enL 1 enW r.wind]
def wV(r:Zn):Int:=
 if !isName r.name then 8 else if !isName r.tone then 8 else if xG r.num r.den≠0 then xG r.num r.den
 else if !(decide (-256≤r.first)&&decide (r.first≤256)) then 3 else if r.wind.els.length=0 then 13 else if 128<r.wind.els.length then 4 else if r.wind.els.any xC then 3 else 0
theorem t62(k:Nat)(r:Zn)(hw:r.wind.els.length≤9223372036854775807):D (k+5) 62 [SA (enR r)]=some (S1 (I6 (wV r))):=by
 unfold enR;rw[D62];unfold P62 wV;simp only[t40,yL,vg,zf,zK];cases isName r.name with
 |false=>rfl
 |true=>
  cases isName r.tone with
  |false=>rfl
  |true=>
   simp only[t34,t84,t85 k r.wind hw,yL,vg,zf,zK,xf,yy,xK,yl,Yyd,Yzk,if_false]
   grind
def wH:List Zn→Int
 | []=>0
 |r::l=>if wV r≠0 then wV r else wH l
def zdY(r:Zn):Prop:=r.wind.els.length≤9223372036854775807
def zoM(id:Nat)(e:Int):PX:=if e≠0 then(.ret,[I6 e],[]) else(.exit id,[],[])
theorem l39(k:Nat)(l:Sl Zn)(hl:l.els.length≤9223372036854775807)(hr:∀r∈l.els,zdY r):∀(r:List Zn) (i:Nat),l.els.drop i=r→
  yC (zmj (D (k+5)) (I6 (l.els.length:Int)) (enL 6 enR l)) [I6 (i:Int)] []=some (zoM 0 (wH r)):=by
 intro r
 induction r with
 |nil=>
  intro i h;refine zF ?_
  grind[zmj,z8,zI,zf,qJ,wN,zK]
 |cons x r ih=>
  intro i h;have h1:=ur h;have ea:zy .add (I6 (i:Int)) (I6 1)=some (I6 ((i+1:Nat):Int)):=wD;have hx:zdY x:=hr x (Lz3 (uX h));have c:D (k+5) 62 [SA [atD (enR x) 0,atD (enR x) 1,atD (enR x) 2,atD (enR x) 3,atD (enR x) 4,atD (enR x) 5]]=some (S1 (I6 (wV x))):=t62 k x hx;have body:zmj (D (k+5)) (I6 (l.els.length:Int)) (enL 6 enR l) [I6 (i:Int)] []=some (if wV x≠0 then(.ret,[I6 (wV x)],[]) else(.normal,[I6 ((i+1:Nat):Int)],[])):=by
   simp only[zmj,z8,zI,zf,zix h1,zK,if_true,wl h,c,yL,xf,ea]
   grind
  by_cases hc:wV x=0
  ·rw[Yzc (by omega)]at body;rw[yh body,ih (i+1) (xU h)];grind[wH]
  ·rw[Yzd hc]at body;grind[yp,wH,zoM]
structure Place where
 ranks:Sl Zn
 low:Int
 high:Int
def enP(x:Place):List DV:=[enL 6 enR x.ranks,I6 x.low,I6 x.high]
structure Place.ok (x:Place):Prop where
 len:x.ranks.els.length≤9223372036854775807
 ranks:∀r∈x.ranks.els,zdY r
def wI(x:Place):Int:=if 60<x.ranks.els.length then 4 else if wH x.ranks.els≠0 then wH x.ranks.els else right x.low x.high
theorem t39(k:Nat)(x:Place)(hx:x.ok):D (k+6) 39 [SA (enP x)]=some (S1 (I6 (wI x))):=by
 unfold enP;rw[D39];unfold P39 wI;have:=l39 k x.ranks hx.len hx.ranks x.ranks.els 0 rfl;simp only[yy,zf,yl,zK];rw[show (I6 0:DV)=I6 ((0:Nat):Int) from rfl,this];by_cases h1:60<x.ranks.els.length
 ·grind
 ·have h2:¬((60:Int)<(x.ranks.els.length:Int)):=by omega
  simp only[h1,h2,decide_false,Yzk,if_false];unfold zoM;by_cases h3:wH x.ranks.els=0<;>simp_all[t63]
structure Zm where
 rank:Int
 shift:Int
deriving DecidableEq
def enD(d:Zm):List DV:=[I6 d.rank,I6 d.shift]
theorem zew(a b:Zm):zlL [1,1] [I6 a.rank,I6 a.shift] [I6 b.rank,I6 b.shift]=some (decide (a=b)):=by
 cases a with|mk r s=>
 cases b with|mk r' s'=>
 simp only[zlL,eqD,yU,Yza,uC];by_cases h1:r=r'
 ·by_cases h2:s=s'
  ·grind
  ·have e2:(s==s')=false:=by grind
   simp[h1,h2,e2]
 ·have e1:(r==r')=false:=by grind
  simp[h1,e1]
theorem l65(d:Zm)(l:Sl Zm)(hl:l.els.length≤9223372036854775807):∀(r:List Zm) (i:Nat),l.els.drop i=r→
  yC (zmf (I6 (l.els.length:Int)) (enL 2 enD l) (I6 d.rank) (I6 d.shift)) [I6 (i:Int)] []=some (found (ki (fun x=>decide (d=x)) r i)):=by
 intro r
 induction r with
 |nil=>
  intro i h;refine zF ?_
  grind[zmf,z8,zI,zf,qJ,wN,zK]
 |cons x r ih=>
  intro i h;have h1:=ur h;have ea:zy .add (I6 (i:Int)) (I6 1)=some (I6 ((i+1:Nat):Int)):=wD;have eq:=zew d x;have body:zmf (I6 (l.els.length:Int)) (enL 2 enD l) (I6 d.rank) (I6 d.shift) [I6 (i:Int)] []=some (if d=x then(.ret,[I6 (i:Int)],[]) else(.normal,[I6 ((i+1:Nat):Int)],[])):=by
   simp only[zmf,z8,zI,zf,zix h1,zK,if_true,wl h,enD,uM,jw,eq,ea]
   grind
  by_cases hc:d=x
  ·rw[Yzd hc]at body;grind[yp,ki,found]
  ·rw[Yzc hc]at body;grind[yh,xU,ki]
theorem t65(k:Nat)(d:Zm)(l:Sl Zm)(hl:l.els.length≤9223372036854775807):D (k+1) 65 [S1 (enL 2 enD l),SA (enD d)]=some (S1 (I6 (match ki (fun x=>decide (d=x)) l.els 0 with|some i=>(i:Int)|none=>-1))):=by unfold enD;rw[D65];unfold P65;have:=l65 d l hl l.els 0 rfl;unfold enD at this;simp only[yy,zf];rw[show (I6 0:DV)=I6 ((0:Nat):Int) from rfl,this];cases ki (fun x=>decide (d=x)) l.els 0<;>rfl
theorem t42(k:Nat)(d:Zm)(l:Sl Zm)(hl:l.els.length≤9223372036854775807):D (k+2) 42 [S1 (enL 2 enD l),SA (enD d)]=some (S1 (Bo (l.els.any fun x=>decide (d=x)))):=by have:=t65 k d l hl;unfold enD at this ⊢;rw[D42];unfold P42;rw[this,←uz (fun x=>decide (d=x)) l.els 0];cases ki (fun x=>decide (d=x)) l.els 0<;>simp_all
end Go.Proofs.Tryz.Kn
end
section
namespace Go.Proofs.Tryz.Kn
open Go Go.CE Go.PE
theorem zvf(y:Nat):zbj none 0 y=some 0:=rfl
theorem zvg{k:IntKind}{i d y:Nat}(h:i≤y):zbj (some (.int k (i:Int))) d y=some i:=by
 show (bif Nat.ble i y then some i else none)=_
 grind[Yze]
theorem zff{α:Type}{st i:Nat}{f:α→List DV}{l:List α}{k:IntKind}(h:i≤l.length):
  jN st (enL st f (some l)) none (some (.int k (i:Int)))=some (enL st f (some (l.take i))):=by
 simp_all[jN,zhs,zvg,zvf]
def wz(n:Nat):List Zm→List Zm→Int
 |_,[]=>0
 |p,d::r=>if d.rank<0 then 10 else if (n:Int)≤d.rank then 10 else if d.shift < -127 then 3 else if 127<d.shift then 3 else if p.any (fun x=>decide (d=x)) then 9 else wz n (p++[d]) r
def yF(n:Nat)(l:List Zm):Int:=if 8<l.length then 4 else wz n [] l
theorem l41(k:Nat)(rs:Sl Zn)(l:List Zm)(hl:l.length≤9223372036854775807):∀(r:List Zm) (i:Nat),l.drop i=r→
  yC (zmh (D (k+2)) (I6 (l.length:Int)) (enL 2 enD (some l)) (enL 6 enR rs)) [I6 (i:Int)] []=some (zoM 0 (wz rs.els.length (l.take i) r)):=by
 intro r
 induction r with
 |nil=>
  intro i h;refine zF ?_
  grind[zmh,z8,zI,zf,qJ,wN,zK]
 |cons x r ih=>
  intro i h;have h1:=ur h;have ea:zy .add (I6 (i:Int)) (I6 1)=some (I6 ((i+1:Nat):Int)):=wD;have ix:jO 2 (enL 2 enD (some l)) (I6 (i:Int))=some (enD x):=wl (v:=some l) h _;have sl:jN 2 (enL 2 enD (some l)) none (some (I6 (i:Int)))=some (enL 2 enD (some (l.take i))):=zff (by omega);have c:=t42 k x (some (l.take i)) (by grind);simp only[enD]at c;have body:zmh (D (k+2)) (I6 (l.length:Int)) (enL 2 enD (some l)) (enL 6 enR rs) [I6 (i:Int)] [] =
    some (if x.rank<0 then(.ret,[I6 10],[]) else if (rs.els.length:Int)≤x.rank then(.ret,[I6 10],[]) else if x.shift < -127 then(.ret,[I6 3],[]) else if 127<x.shift then(.ret,[I6 3],[]) else if (l.take i).any (fun y=>decide (x=y)) then(.ret,[I6 9],[]) else(.normal,[I6 ((i+1:Nat):Int)],[])):=by
   simp only[zmh,z8,zI,zf,zix h1,zK,if_true,ix,enD,uM,jw,yy,jQ,yl,sl,c,yL,ea,Yz0,Sl.els,Option.getD_some]
   grind
  have hn:l.take (i+1)=l.take i++[x]:=by grind
  unfold wz;by_cases a1:x.rank<0
  ·rw[Yzd a1]at body ⊢;rw[yp body];rfl
  rw[Yzc a1]at body ⊢;by_cases a2:(rs.els.length:Int)≤x.rank
  ·rw[Yzd a2]at body ⊢;rw[yp body];rfl
  rw[Yzc a2]at body ⊢;by_cases a3:x.shift < -127
  ·rw[Yzd a3]at body ⊢;rw[yp body];rfl
  rw[Yzc a3]at body ⊢;by_cases a4:127<x.shift
  ·rw[Yzd a4]at body ⊢;rw[yp body];rfl
  rw[Yzc a4]at body ⊢;by_cases a5:(l.take i).any (fun y=>decide (x=y))=true
  ·rw[Yzd a5]at body ⊢;rw[yp body];rfl
  rw[Yzc a5]at body ⊢
  grind[yh,xU]
theorem t41(k:Nat)(x:Place)(l:Sl Zm)(hl:l.els.length≤9223372036854775807):D (k+3) 41 [SA (enP x),S1 (enL 2 enD l)]=some (S1 (I6 (yF x.ranks.els.length l.els))):=by
 unfold enP;rw[D41];unfold P41 yF;simp only[yy,zf,yl,zK];by_cases h1:8<l.els.length
 ·grind
 ·have h2:¬((8:Int)<(l.els.length:Int)):=by omega
  simp only[h1,h2,decide_false,Yzk,if_false];cases l with
  |none=>rw[zF (id:=0) (L':=[]) (M':=[]) (by rfl)];rfl
  |some l=>have:=l41 k x.ranks l hl l 0 rfl;rw[show (I6 0:DV)=I6 ((0:Nat):Int) from rfl,show Sl.els (some l:Sl Zm)=l from rfl,this,List.take_zero];unfold zoM;by_cases h3:wz x.ranks.els.length [] l=0<;>simp_all
structure Seg where
 lo:Int
 hi:Int
 draws:Sl Zm
def enS(g:Seg):List DV:=[I6 g.lo,I6 g.hi,enL 2 enD g.draws]
def zpd(g:Seg):Prop:=g.draws.els.length≤9223372036854775807
structure Zr where
 name:ByteArray
 num:Int
 den:Int
 segs:Sl Seg
def qA(s:Zr):List DV:=[St s.name,I6 s.num,I6 s.den,enL 3 enS s.segs]
structure Zr.ok (s:Zr):Prop where
 len:s.segs.els.length≤9223372036854775807
 segs:∀g∈s.segs.els,zpd g
def leO(a:Int):Option Int→Bool
 |some t=>decide (a≤t)
 |none=>false
def qr(l:List Seg):Nat→Option Int
 |0=>none
 |j+1=>(l[j]?).map Seg.hi
def wT(x:Place):List Seg→Option Int→Int
 | [],_=>0
 |g::r,p=>
  if min g.lo g.hi<x.low then 23 else if x.high<max g.lo g.hi then 23 else if g.hi<g.lo then 6
  else if leO g.lo p then 6
  else if yF x.ranks.els.length g.draws.els≠0 then yF x.ranks.els.length g.draws.els else wT x r (some g.hi)
theorem l20(k:Nat)(x:Place)(l:Sl Seg)(hl:l.els.length≤9223372036854775807)(hs:∀g∈l.els,zpd g):∀(r:List Seg) (i:Nat),l.els.drop i=r→
  yC (zeQ (D (k+3)) (I6 (l.els.length:Int)) (enL 3 enS l) (I6 x.low) (I6 x.high) (enL 6 enR x.ranks)) [I6 (i:Int)] []=some (zoM 1 (wT x r (qr l.els i))):=by
 intro r
 induction r with
 |nil=>
  intro i h;refine zF ?_
  grind[zeQ,z8,zI,zf,qJ,wN,zK]
 |cons g r ih=>
  intro i h;have h1:=ur h;have ea:zy .add (I6 (i:Int)) (I6 1)=some (I6 ((i+1:Nat):Int)):=wD;have c:=t41 k x g.draws (hs g (Lz3 (uX h)));simp only[enP]at c;have body:zeQ (D (k+3)) (I6 (l.els.length:Int)) (enL 3 enS l) (I6 x.low) (I6 x.high) (enL 6 enR x.ranks) [I6 (i:Int)] [] =
    some (if min g.lo g.hi<x.low then(.ret,[I6 23],[]) else if x.high<max g.lo g.hi then(.ret,[I6 23],[]) else if g.hi<g.lo then(.ret,[I6 6],[])
     else if leO g.lo (qr l.els i)=true then(.ret,[I6 6],[]) else if yF x.ranks.els.length g.draws.els≠0 then(.ret,[I6 (yF x.ranks.els.length g.draws.els)],[]) else(.normal,[I6 ((i+1:Nat):Int)],[])):=by
   simp only[zeQ,z8,zI,zf,zix h1,zK,if_true,wl h,enS,uM,jw,zpz,zsc,yl,c,yL,ea,Yz0,xf];have tail:(if (!(yF x.ranks.els.length g.draws.els==0))=true then some ((.ret,[I6 (yF x.ranks.els.length g.draws.els)],[]):PX) else some (.normal,[I6 ((i+1:Nat):Int)],[])) =
     some (if yF x.ranks.els.length g.draws.els≠0 then(.ret,[I6 (yF x.ranks.els.length g.draws.els)],[]) else(.normal,[I6 ((i+1:Nat):Int)],[])):=by
    grind
   rw[tail];cases i with
   |zero=>
    have:¬((0:Int)<((0:Nat):Int)):=by omega
    simp only[this,if_false,Yzk,qr,leO]
    grind
   |succ j=>
    obtain⟨q,hq⟩:∃q,l.els[j]? = some q:=⟨_,Lz5 (by omega)⟩;have h2:(0:Int)<((j+1:Nat):Int):=by omega
    have es:zy .sub (I6 ((j+1:Nat):Int)) (I6 1)=some (I6 (((j+1:Nat):Int)-1)):=zrH;have e1:((j+1:Nat):Int)-1=(j:Int):=by omega
    rw[e1]at es;have ix:jO 3 (enL 3 enS l) (I6 (j:Int))=some (enS q):=by grind[uS]
    simp only[qr,hq,YzE,leO,h2,if_true,es,zf,ix,enS,jw,uM,uT,zK,Yz0]
    grind
  have hp:qr l.els (i+1)=some g.hi:=by simp only[qr,uX h,YzE]
  unfold wT;by_cases a1:min g.lo g.hi<x.low
  ·rw[Yzd a1]at body ⊢;rw[yp body];rfl
  rw[Yzc a1]at body ⊢;by_cases a2:x.high<max g.lo g.hi
  ·rw[Yzd a2]at body ⊢;rw[yp body];rfl
  rw[Yzc a2]at body ⊢;by_cases a3:g.hi<g.lo
  ·rw[Yzd a3]at body ⊢;rw[yp body];rfl
  rw[Yzc a3]at body ⊢;by_cases a4:leO g.lo (qr l.els i)=true
  ·rw[Yzd a4]at body ⊢;rw[yp body];rfl
  rw[Yzc a4]at body ⊢;by_cases a5:yF x.ranks.els.length g.draws.els≠0
  ·rw[Yzd a5]at body ⊢;rw[yp body];simp_all[zoM]
  rw[Yzc a5]at body ⊢
  grind[yh,xU]
def zcu(x:Place)(s:Zr):Int:=
 if wI x≠0 then wI x else if !isName s.name then 8 else if xG s.num s.den≠0 then xG s.num s.den
 else if s.segs.els.length=0 then 13 else if 12<s.segs.els.length then 4 else wT x s.segs.els none
theorem t20(k:Nat)(x:Place)(s:Zr)(hx:x.ok)(hs:s.ok):D (k+7) 20 [SA (enP x),SA (qA s)]=some (S1 (I6 (zcu x s))):=by
 have c1:=t39 k x hx;have l:=l20 (k+3) x s.segs hs.len hs.segs s.segs.els 0 rfl;unfold enP at c1 ⊢;unfold qA;rw[D20];unfold P20 zcu;simp only[c1,t40,t34,yL,xf,zf,zK,vg,yy,xK,yl];by_cases h1:wI x=0
 ·simp only[h1];cases isName s.name with
  |false=>rfl
  |true=>
   by_cases h2:xG s.num s.den=0
   ·simp only[h2];by_cases h3:s.segs.els.length=0
    ·simp[h3]
    ·have h4:¬((s.segs.els.length:Int)=0):=by omega
     by_cases h5:12<s.segs.els.length
     ·grind
     ·have h6:¬((12:Int)<(s.segs.els.length:Int)):=by omega
      rw[show (I6 0:DV)=I6 ((0:Nat):Int) from rfl,l,show qr s.segs.els 0=none from rfl];unfold zoM;by_cases h7:wT x s.segs.els none=0
      ·simp[h3,h5,h6,h7]
      ·simp[h3,h5,h6,h7]
   grind
 grind
end Go.Proofs.Tryz.Kn
end
section
namespace Go.Proofs.Tryz.Kn
open Go Go.CE Go.PE
def feet:List (Int×Int):=[(64,1),(32,1),(64,3),(16,1),(64,5),(32,3),(8,1),(32,5),(16,3),(4,1),(16,5),(8,3),(16,7),(2,1),(8,5),(4,3),(8,7),(1,1),(4,5),(2,3),(1,2),(1,4)]
def enF(p:Int×Int):List DV:=[I6 p.1,I6 p.2]
theorem t33(k:Nat):D (k+1) 33 []=some (S1 (enL 2 enF (some feet))):=by rw[D33];unfold P33;rw[jM.2 ⟨30,show xy ztn 30 [I6 0] [none]=some (Zg.exit 0,[],[some (feet.map enF)]) by kernel_rfl⟩];rfl
def kf(n:Nat):Int×Int:=(feet[n % 22]?).getD (8,1)
theorem qZ(n:Nat):feet[n % 22]? = some (kf n):=by unfold kf;rw[Lz5 (show n % 22<feet.length by rw[show feet.length=22 from rfl];exact Yzz _ (by omega))];rfl
theorem zlz(n:Nat):xG (kf n).1 (kf n).2=0:=by
 have h:∀p∈feet,xG p.1 p.2=0:=by
  have:(feet.all fun p=>xG p.1 p.2==0)=true:=by kernel_rfl
  intro p hp
  simpa using YzF.1 this p hp
 exact h _ (Lz3 (qZ n))
theorem t17(k:Nat){n:Nat}(hn:n<256):D (k+2) 17 [S1 (U8 (n:Int))]=some (SA [I6 (kf n).1,I6 (kf n).2]):=by
 rw[D17];unfold P17;rw[t33];have hl:((Sl.els (some feet)).length:Int)=((22:Nat):Int):=rfl;have e1:zy .rem (I6 (n:Int)) (I6 ((22:Nat):Int))=some (I6 ((n % 22:Nat):Int)):=zmn (by decide);have e2:jO 2 (enL 2 enF (some feet)) (I6 ((n % 22:Nat):Int))=some (enF (kf n)):=by rw[uS,we,qZ];rfl
 have e3:y6 .i64 (U8 (n:Int))=some (I6 (n:Int)):=v6;simp only[yL,yy,hl,zf,xK,zK,e3,e1,e2,enF,uM,jw];rfl
structure Row where
 feet:Nat
 first:Nat
 pipes:Nat
structure Row.ok (r:Row):Prop where
 feet:r.feet<256
 first:r.first<256
 pipes:r.pipes<256
def zcn(n:Nat):List Int:=(List.range n).map fun k=>1+((k % 3:Nat):Int)
def vW(n:Nat):Sl Int:=if n=0 then none else some (zcn n)
theorem zbx(n:Nat):(vW n).els=zcn n:=by
 unfold vW;by_cases h:n=0
 ·subst h;rfl
 ·rw[Yzc h];rfl
theorem zhO(n:Nat):vW (n+1)=some ((vW n).els++[1+((n % 3:Nat):Int)]):=by rw[zbx];unfold vW zcn;rw[Yzc (by omega),List.range_succ,List.map_append];rfl
theorem zac(n:Nat):(zcn n).length=n:=by simp[zcn]
theorem zwh(v2 v5 v8:DV)(i:Nat)(p:Nat)(_hp:p<256)(h:atD [v2,v5,v8] i=U8 (p:Int))(c0 c1 c2 c3 c4:DV):∀(m j:Nat),j+m=1+p % 25→
  yC (zmg v2 v5 v8 i) [I6 (j:Int),c0,c1,c2,c3,c4] [ocL enW (vW j)]=some (.exit 2,[c0,c1,c2,c3,c4],[ocL enW (vW (1+p % 25))]):=by
 have e1:zy .rem (U8 (p:Int)) (U8 25)=some (U8 ((p % 25:Nat):Int)):=zmn (b:=25) (by decide);have hm:p % 25<25:=Yzz _ (by omega);have e2:y6 .i64 (U8 ((p % 25:Nat):Int))=some (I6 ((p % 25:Nat):Int)):=v6;have e3:zy .add (I6 1) (I6 ((p % 25:Nat):Int))=some (I6 ((1+p % 25:Nat):Int)):=by rw[show ((1+p % 25:Nat):Int)=1+((p % 25:Nat):Int) by omega];exact wD
 intro m
 induction m with
 |zero=>
  intro j hj;refine zF ?_;have hj':j=1+p % 25:=by omega
  subst hj';have:decide (((1+p % 25:Nat):Int)<((1+p % 25:Nat):Int))=false:=qJ (by omega);simp only[zmg,h,e1,e2,e3,zf,z8,yO,zI,this,zK];rfl
 |succ m ih=>
  intro j hj;have hlt:decide ((j:Int)<((1+p % 25:Nat):Int))=true:=zix (by omega);have ea:zy .add (I6 (j:Int)) (I6 1)=some (I6 ((j+1:Nat):Int)):=wD;have eb:zy .rem (I6 (j:Int)) (I6 3)=some (I6 ((j % 3:Nat):Int)):=zmn (b:=3) (by decide);have ec:zy .add (I6 1) (I6 ((j % 3:Nat):Int))=some (I6 (1+((j % 3:Nat):Int))):=wD;have ef:fits 8 ((vW j).els.length+1)=true:=jq (by decide) (by rw[zbx,zac];omega);have body:zmg v2 v5 v8 i [I6 (j:Int),c0,c1,c2,c3,c4] [ocL enW (vW j)]=some (.normal,[I6 ((j+1:Nat):Int),c0,c1,c2,c3,c4],[ocL enW (vW (j+1))]):=by simp only[zmg,h,e1,e2,e3,zf,z8,yO,zI,hlt,zK,if_true,eb,ec,zaE,zc3,Yzw,Yz1,ef,zaW,ea,kZ,zhO];rw[zcW (f:=enW)]
  rw[yh body,ih (j+1) (by omega)]
def zni(i:Nat):ByteArray:=zcI [114,49+(i:Int)] ByteArray.empty
def zsy:ByteArray:=⟨#[116]⟩
def xd(i:Nat)(r:Row):Zn:=⟨zni i,zsy,(kf r.feet).1,(kf r.feet).2,30+((r.first % 40:Nat):Int),some (zcn (1+r.pipes % 25))⟩
theorem l5(k:Nat)(a0 a3 a6 a1 a4 a7 a2 a5 a8:DV)(i:Nat)(hi:i<3)(r:Row)(hr:r.ok)(h0:atD [a0,a3,a6] i=U8 (r.feet:Int))(h1:atD [a1,a4,a7] i=U8 (r.first:Int))(h2:atD [a2,a5,a8] i=U8 (r.pipes:Int))
  (c0 c1:DV) (acc:Sl Zn) (hacc:acc.els.length=i):
  zvr (D (k+2)) a0 a3 a6 a1 a4 a7 a2 a5 a8 [I6 (i:Int),c0,c1] [ocL enR acc]=some (.normal,[I6 ((i+1:Nat):Int),c0,c1],[ocL enR (some (acc.els++[xd i r]))]):=by
 have hlt:decide ((i:Int)<3)=true:=decide_eq_true (by omega);have ea:zy .add (I6 (i:Int)) (I6 1)=some (I6 ((i+1:Nat):Int)):=wD;have en:u6 3 (I6 (i:Int))=some i:=qU hi;have ev:y6 .u8 (I6 (i:Int))=some (U8 (i:Int)):=by show some (DV.int .u8 (x6 .u8 (i:Int)))=_;rw[zrx];congr 2;omega
 have ew:zy .add (U8 49) (U8 (i:Int))=some (U8 (49+(i:Int))):=by rw[zgL,zrx];congr 2;omega
 have es:zox (.lst 1 [[U8 114],[U8 (49+(i:Int))]])=some (St (zni i)):=rfl;have er:zy .rem (U8 (r.first:Int)) (U8 40)=some (U8 ((r.first % 40:Nat):Int)):=zmn (b:=40) (by decide);have hm:r.first % 40<40:=Yzz _ (by omega)
 have ec:y6 .i64 (U8 ((r.first % 40:Nat):Int))=some (I6 ((r.first % 40:Nat):Int)):=v6;have ed:zy .add (I6 30) (I6 ((r.first % 40:Nat):Int))=some (I6 (30+((r.first % 40:Nat):Int))):=wD;have ef:fits 80 (acc.els.length+1)=true:=jq (by decide) (by omega);have lw:=zwh a2 a5 a8 i r.pipes hr.pipes h2 (St (zni i)) (.str ⟨#[116]⟩) (I6 (kf r.feet).1) (I6 (kf r.feet).2) (I6 (30+((r.first % 40:Nat):Int))) (1+r.pipes % 25) 0 (by omega);rw[show vW 0=none from rfl,znc]at lw;have hw:vW (1+r.pipes % 25)=some (zcn (1+r.pipes % 25)):=Yzc (by omega);simp only[zvr,z8,yO,zI,zf,hlt,zK,if_true,en,ev,ew,es,h0,t17 k hr.feet,ztf (show[I6 (kf r.feet).1,I6 (kf r.feet).2].length=2 from rfl),uM,jw,h1,er,ec,ed];rw[show (I6 0:DV)=I6 ((0:Nat):Int) from rfl,lw,hw];simp only[wh,z8,yO,zaE,zfu,zc3,Yzw,Yz1,kZ,ef,zaW,ea,zf];rw[show Nat.beq 2 2=true from rfl,Yza];have:=zcW (f:=enR) acc (xd i r);rw[←this];rfl
structure Site where
 r0:Row
 r1:Row
 r2:Row
 low:Nat
 keys:Nat
structure Site.ok (y:Site):Prop where
 r0:y.r0.ok
 r1:y.r1.ok
 r2:y.r2.ok
 low:y.low<256
 keys:y.keys<256
def ziP(r:Row):List DV:=[U8 (r.feet:Int),U8 (r.first:Int),U8 (r.pipes:Int)]
def zcb(y:Site):List DV:=ziP y.r0++ziP y.r1++ziP y.r2++[U8 (y.low:Int),U8 (y.keys:Int)]
def placeOf(y:Site):Place:=⟨some [xd 0 y.r0,xd 1 y.r1,xd 2 y.r2],36+((y.low % 24:Nat):Int),36+((y.low % 24:Nat):Int)+((y.keys % 16:Nat):Int)⟩
theorem t5(k:Nat)(y:Site)(hy:y.ok):D (k+3) 5 [SA (zcb y)]=some (SA (enP (placeOf y))):=by unfold zcb ziP;simp only[List.cons_append,Yyb];rw[D5];unfold P5;have ha:y.low % 24<24:=Yzz _ (by omega);have hb:y.keys % 16<16:=Yzz _ (by omega);have e1:zy .rem (U8 (y.low:Int)) (U8 24)=some (U8 ((y.low % 24:Nat):Int)):=zmn (b:=24) (by decide);have e2:y6 .i64 (U8 ((y.low % 24:Nat):Int))=some (I6 ((y.low % 24:Nat):Int)):=v6;have e3:zy .add (I6 36) (I6 ((y.low % 24:Nat):Int))=some (I6 (36+((y.low % 24:Nat):Int))):=wD;have e4:zy .rem (U8 (y.keys:Int)) (U8 16)=some (U8 ((y.keys % 16:Nat):Int)):=zmn (b:=16) (by decide);have e5:y6 .i64 (U8 ((y.keys % 16:Nat):Int))=some (I6 ((y.keys % 16:Nat):Int)):=v6;have e6:zy .add (I6 (36+((y.low % 24:Nat):Int))) (I6 ((y.keys % 16:Nat):Int))=some (I6 (36+((y.low % 24:Nat):Int)+((y.keys % 16:Nat):Int))):=wD;simp only[e1,e2,e3,e4,e5,e6,zf];have s0:=l5 k (U8 (y.r0.feet:Int)) (U8 (y.r1.feet:Int)) (U8 (y.r2.feet:Int)) (U8 (y.r0.first:Int)) (U8 (y.r1.first:Int)) (U8 (y.r2.first:Int)) (U8 (y.r0.pipes:Int)) (U8 (y.r1.pipes:Int)) (U8 (y.r2.pipes:Int)) 0 (by omega) y.r0 hy.r0 rfl rfl rfl (I6 (36+((y.low % 24:Nat):Int))) (I6 (36+((y.low % 24:Nat):Int)+((y.keys % 16:Nat):Int))) none rfl;have s1:=l5 k (U8 (y.r0.feet:Int)) (U8 (y.r1.feet:Int)) (U8 (y.r2.feet:Int)) (U8 (y.r0.first:Int)) (U8 (y.r1.first:Int)) (U8 (y.r2.first:Int)) (U8 (y.r0.pipes:Int)) (U8 (y.r1.pipes:Int)) (U8 (y.r2.pipes:Int)) 1 (by omega) y.r1 hy.r1 rfl rfl rfl (I6 (36+((y.low % 24:Nat):Int))) (I6 (36+((y.low % 24:Nat):Int)+((y.keys % 16:Nat):Int))) (some [xd 0 y.r0]) rfl;have s2:=l5 k (U8 (y.r0.feet:Int)) (U8 (y.r1.feet:Int)) (U8 (y.r2.feet:Int)) (U8 (y.r0.first:Int)) (U8 (y.r1.first:Int)) (U8 (y.r2.first:Int)) (U8 (y.r0.pipes:Int)) (U8 (y.r1.pipes:Int)) (U8 (y.r2.pipes:Int)) 2 (by omega) y.r2 hy.r2 rfl rfl rfl (I6 (36+((y.low % 24:Nat):Int))) (I6 (36+((y.low % 24:Nat):Int)+((y.keys % 16:Nat):Int))) (some [xd 0 y.r0,xd 1 y.r1]) rfl;rw[show (I6 0:DV)=I6 ((0:Nat):Int) from rfl,show (none:OC)=ocL enR none from rfl,yh s0];simp only[zn1,we,Yyb,List.cons_append]at s1 s2 ⊢;rw[yh s1,yh s2,zF (id:=0) (L':=[I6 (36+((y.low % 24:Nat):Int)),I6 (36+((y.low % 24:Nat):Int)+((y.keys % 16:Nat):Int))]) (M':=[ocL enR (some [xd 0 y.r0,xd 1 y.r1,xd 2 y.r2])]) rfl];rfl
end Go.Proofs.Tryz.Kn
end
noncomputable section
namespace Go.Proofs.Tryz.Kn
open Go Go.CE Go.PE
theorem zhh{p:Int×Int}(h:p∈feet):xG p.1 p.2=0:=by
 have:(feet.all fun p=>xG p.1 p.2==0)=true:=by kernel_rfl
 simpa using YzF.1 this p h
def zeG(s:CE.Sum):Bool:=match xk s.g s.args ⟨.z,.nil⟩ bSums with|some v=>eqA v s.res|none=>false
theorem zvI:(pows.all fun n=>zeG (vZ n)&&zeG (ofS n))=true:=by kernel_rfl
theorem fm0:(((dens.drop 0).take 11).all fun x=>(yb x).all zeG)=true:=by kernel_rfl
theorem fm1:(((dens.drop 11).take 11).all fun x=>(yb x).all zeG)=true:=by kernel_rfl
theorem fm2:(((dens.drop 22).take 11).all fun x=>(yb x).all zeG)=true:=by kernel_rfl
theorem fc0:(((prs.drop 0).take 12).all fun x=>(zm x).all zeG)=true:=by kernel_rfl
theorem fc1:(((prs.drop 12).take 12).all fun x=>(zm x).all zeG)=true:=by kernel_rfl
theorem fc2:(((prs.drop 24).take 12).all fun x=>(zm x).all zeG)=true:=by kernel_rfl
theorem fc3:(((prs.drop 36).take 12).all fun x=>(zm x).all zeG)=true:=by kernel_rfl
theorem fc4:(((prs.drop 48).take 12).all fun x=>(zm x).all zeG)=true:=by kernel_rfl
theorem fc5:(((prs.drop 60).take 12).all fun x=>(zm x).all zeG)=true:=by kernel_rfl
theorem fc6:(((prs.drop 72).take 12).all fun x=>(zm x).all zeG)=true:=by kernel_rfl
theorem fc7:(((prs.drop 84).take 12).all fun x=>(zm x).all zeG)=true:=by kernel_rfl
theorem zwK:∀i,i<3→(((dens.drop (11*i)).take 11).all fun x=>(yb x).all zeG)=true
 |0,_=>fm0
 |1,_=>fm1
 |2,_=>fm2
theorem zwL:∀i,i<8→(((prs.drop (12*i)).take 12).all fun x=>(zm x).all zeG)=true
 |0,_=>fc0
 |1,_=>fc1
 |2,_=>fc2
 |3,_=>fc3
 |4,_=>fc4
 |5,_=>fc5
 |6,_=>fc6
 |7,_=>fc7
theorem zg0{α:Type}{l:List α}{x:α}(h:x∈l){m n:Nat}(hm:0<m)(hl:l.length≤m*n):∃i,i<n∧x∈(l.drop (m*i)).take m:=by obtain⟨j,hj⟩:=List.mem_iff_getElem?.1 h;have hlt:=(Lz0.1 hj).1;refine⟨j / m,Nat.div_lt_of_lt_mul (by omega),Lz3 (i:=j % m) ?_⟩;rw[YzA,Yzd (Yzz _ hm),Yzm,Nat.div_add_mod];exact hj
theorem zwM(s:CE.Sum)(hs:s∈ve):zeG s=true:=by
 rcases List.mem_append.1 hs with hs|hs
 ·rcases List.mem_append.1 hs with hs|hs
  ·rcases List.mem_append.1 hs with hs|hs
   ·obtain⟨n,hn,rfl⟩:=List.mem_map.1 hs;exact(LzC _ _▸YzF.1 zvI n hn).1
   ·obtain⟨n,hn,rfl⟩:=List.mem_map.1 hs;exact(LzC _ _▸YzF.1 zvI n hn).2
  ·obtain⟨x,hx,h⟩:=List.mem_flatMap.1 hs;obtain⟨i,hi,hx⟩:=zg0 hx (m:=11) (n:=3) (by decide) (Lz4 rfl);exact YzF.1 (YzF.1 (zwK i hi) x hx) _ h
 ·obtain⟨x,hx,h⟩:=List.mem_flatMap.1 hs;obtain⟨i,hi,hx⟩:=zg0 hx (m:=12) (n:=8) (by decide) (Lz4 rfl);exact YzF.1 (YzF.1 (zwL i hi) x hx) _ h
theorem zvt{s:CE.Sum}(hs:s∈ve){xs:List DA}{d:DA}(hg:([35,36,37,38]:List Nat).any (Nat.beq s.g)=true)(ha:avs xs=some s.args)(hd:ofA s.res=some d):B s.g xs=some d:=by
 have h:=zwM s hs;unfold zeG at h;split at h
 ·rename_i v hv;have:=zhp h;subst this;unfold B zrG;have:(bIds.any (Nat.beq s.g))=true:=by
   simp only[bIds,List.any_cons,List.any_nil,Bool.or_false,Yzu]at hg ⊢;rcases hg with h|h|h|h<;>simp[h]
  rw[this,Yza,ha];simp only[hv,hd]
 ·cases h
theorem zmk(k:Nat){s:CE.Sum}(hs:s∈ve){xs:List DA}{d:DA}(hg:([35,36,37,38]:List Nat).any (Nat.beq s.g)=true)(ha:avs xs=some s.args)(hd:ofA s.res=some d):D k s.g xs=some d:=zez (zvt hs hg ha hd)
theorem zpR{n:Nat}(h:n∈pows):vZ n∈ve:=by unfold ve;exact Yzn _ (Yzn _ (Yzn _ (List.mem_map_of_mem h)))
theorem mem_of{n:Nat}(h:n∈pows):ofS n∈ve:=by unfold ve;exact Yzn _ (Yzn _ (Yzr _ (List.mem_map_of_mem h)))
theorem zkB{x:Nat×Nat}(h:x∈dens){s:CE.Sum}(hs:s∈yb x):s∈ve:=by unfold ve;exact Yzn _ (Yzr _ (List.mem_flatMap.2 ⟨x,h,hs⟩))
theorem zpS{x:Nat×Nat×Nat}(h:x∈prs){s:CE.Sum}(hs:s∈zm x):s∈ve:=by unfold ve;exact Yzr _ (List.mem_flatMap.2 ⟨x,h,hs⟩)
theorem e36(k:Nat){n:Nat}(h:n∈pows):D k 36 [S1 (I6 (n:Int))]=some (S1 (St (dec n))):=zmk k (mem_of h) rfl rfl rfl
theorem e35(k:Nat){n:Nat}(h:n∈pows):D k 35 [S1 (St (dec n)),S1 (I6 24)]=some (.tup [.one (St (dec (n^24))),.one (I6 0)]):=zmk k (zpR h) rfl rfl rfl
theorem zwR(k:Nat){x:Nat×Nat}(h:x∈dens):D k 37 [S1 (St (dec (x.1^24))),S1 (.str ⟨#[50]⟩)]=some (S1 (St (dec (lim x.1 0)))):=by
 have e:x.1^24*2=lim x.1 0:=by unfold lim;omega
 rw[←e];exact zmk k (zkB h (Yzj ..)) rfl rfl rfl
theorem zwQ(k:Nat){x:Nat×Nat}(h:x∈dens){j:Nat}(hj:j<x.2):D k 37 [S1 (St (dec (lim x.1 j))),S1 (.str ⟨#[52]⟩)]=some (S1 (St (dec (lim x.1 (j+1))))):=by
 have e:lim x.1 j*4=lim x.1 (j+1):=by show 2*x.1^24*4^j*4=2*x.1^24*4^(j+1);rw[Nat.mul_assoc (2*x.1^24),←Nat.pow_succ]
 rw[←e];exact zmk k (zkB h (Yzi _ (List.mem_map.2 ⟨j,List.mem_range.2 hj,rfl⟩))) rfl rfl rfl
theorem e38(k:Nat){x:Nat×Nat×Nat}(h:x∈prs){j:Nat}(hj:j≤x.2.2):D k 38 [S1 (St (dec (x.1^24))),S1 (St (dec (lim x.2.1 j)))]=some (S1 (I6 (zrq (x.1^24) (lim x.2.1 j)))):=
 zmk k (zpS h (List.mem_map.2 ⟨j,List.mem_range.2 (by omega),rfl⟩)) rfl rfl rfl
def upN:Nat→Nat→Nat→Int→Nat×Int
 |0,num,_,n=>(num,n)
 |f+1,num,den,n=>if num<den then upN f (num*2) den (n-12) else(num,n)
def dnN:Nat→Nat→Nat→Int→Nat×Int
 |0,_,den,n=>(den,n)
 |f+1,num,den,n=>if 2*den≤num then dnN f num (den*2) (n+12) else(den,n)
theorem zwc(den:Nat)(hd:den≤1000000):∀(f num:Nat) (n:Int),den≤(upN f num den n).1→-1000000≤n-12*(f:Int)→n≤1000000→
  yC (zi1 (I6 (den:Int))) [I6 (num:Int),I6 n] []=some (.exit 0,[I6 ((upN f num den n).1:Int),I6 (upN f num den n).2],[]):=by
 intro f
 induction f with
 |zero=>intro num n h _ _;have h:den≤num:=h;have:decide ((num:Int)<(den:Int))=false:=qJ h;refine zF ?_;simp only[zi1,z8,yO,zI,zf,this,zK,upN];rfl
 |succ f ih=>
  intro num n h h2 h3;unfold upN at h ⊢;by_cases hc:num<den
  ·rw[Yzd hc]at h ⊢;have h1:decide ((num:Int)<(den:Int))=true:=zix hc;have e1:zy .mul (I6 (num:Int)) (I6 2)=some (I6 ((num*2:Nat):Int)):=by
    rw[show ((num*2:Nat):Int)=(num:Int)*2 by omega];exact zfn (by omega) (by omega)
   have e2:zy .sub (I6 n) (I6 12)=some (I6 (n-12)):=zrH;have body:zi1 (I6 (den:Int)) [I6 (num:Int),I6 n] []=some (.normal,[I6 ((num*2:Nat):Int),I6 (n-12)],[]):=by simp only[zi1,z8,yO,zI,zf,h1,zK,if_true,e1,e2]
   rw[yh body];exact ih _ _ h (by omega) (by omega)
  ·rw[Yzc hc];have:decide ((num:Int)<(den:Int))=false:=qJ (by omega);refine zF ?_;simp only[zi1,z8,yO,zI,zf,this,zK];rfl
theorem zwd(a:DV)(num:Nat)(hd:num≤1000000):∀(f den:Nat) (n:Int),num<2*(dnN f num den n).1→n+12*(f:Int)≤1000000→-1000000≤n→0<den→den≤1000000→
  yC (zcj [I6 (num:Int),a]) [I6 (den:Int),I6 n] []=some (.exit 2,[I6 ((dnN f num den n).1:Int),I6 (dnN f num den n).2],[]):=by
 intro f
 induction f with
 |zero=>
  intro den n h _ _ _ h5;have h:num<2*den:=h;have e1:zy .mul (I6 2) (I6 (den:Int))=some (I6 ((2*den:Nat):Int)):=by rw[show ((2*den:Nat):Int)=2*(den:Int) by omega];exact zfn (by omega) (by omega)
  have:decide (((2*den:Nat):Int)≤(num:Int))=false:=decide_eq_false (by omega);refine zF ?_;simp only[zcj,z8,yO,e1,jQ,zf,this,zK,dnN];rfl
 |succ f ih=>
  intro den n h h2 h3 h4 h5;unfold dnN at h ⊢;have e1:zy .mul (I6 2) (I6 (den:Int))=some (I6 ((2*den:Nat):Int)):=by rw[show ((2*den:Nat):Int)=2*(den:Int) by omega];exact zfn (by omega) (by omega)
  by_cases hc:2*den≤num
  ·rw[Yzd hc]at h ⊢;have h1:decide (((2*den:Nat):Int)≤(num:Int))=true:=decide_eq_true (by omega);have e3:zy .mul (I6 (den:Int)) (I6 2)=some (I6 ((den*2:Nat):Int)):=by
    rw[show ((den*2:Nat):Int)=(den:Int)*2 by omega];exact zfn (by omega) (by omega)
   have e2:zy .add (I6 n) (I6 12)=some (I6 (n+12)):=wD;have body:zcj [I6 (num:Int),a] [I6 (den:Int),I6 n] []=some (.normal,[I6 ((den*2:Nat):Int),I6 (n+12)],[]):=by simp only[zcj,z8,yO,e1,jQ,zf,h1,zK,if_true,e3,e2]
   rw[yh body];exact ih _ _ h (by omega) (by omega) (by omega) (by omega)
  ·rw[Yzc hc];have:decide (((2*den:Nat):Int)≤(num:Int))=false:=decide_eq_false (by omega);refine zF ?_;simp only[zcj,z8,yO,e1,jQ,zf,this,zK];rfl
theorem zpu:(prs.all fun x=>(List.range x.2.2).all (fun j=>Nat.ble (Nat.succ (lim x.2.1 j)) (x.1^24))&&Nat.ble (x.1^24) (lim x.2.1 x.2.2))=true:=by kernel_rfl
theorem zjR:(prs.all fun x=>dens.any (fun y=>Nat.beq y.1 x.2.1&&Nat.ble x.2.2 y.2)&&pows.any (Nat.beq x.1)&&pows.any (Nat.beq x.2.1))=true:=by kernel_rfl
theorem zdC{n:Nat}{l:List Nat}(h:l.any (Nat.beq n)=true):n∈l:=by obtain⟨y,hy,e⟩:=List.any_eq_true.1 h;rw[Lz1 e];exact hy
theorem zwe(k:Nat)(x:Nat×Nat×Nat)(hx:x∈prs)(n:Int)(h1:-1000000≤n)(h2:n≤1000000)(hm:x.2.2≤100):∀(r j:Nat),j+r=x.2.2→
  yC (zeR (D k) [.one (St (dec (x.1^24))),.one (I6 0)]) [St (dec (lim x.2.1 j)),I6 (n+(j:Int))] []=some (.exit 4,[I6 (n+(x.2.2:Int))],[]):=by
 have hc:=YzF.1 zpu x hx;have hdn:=YzF.1 zjR x hx;simp only[LzC]at hc hdn;obtain⟨y,hy,ey⟩:=List.any_eq_true.1 hdn.1.1;simp only[LzC]at ey;have ey1:y.1=x.2.1:=Lz1 ey.1;have ey2:=Lz4 ey.2;intro r
 induction r with
 |zero=>
  intro j hj;have hj:j=x.2.2:=by omega
  subst hj;have c:=e38 k hx (LzB _);have hle:=Lz4 hc.2;have hs:decide ((0:Int)<zrq (x.1^24) (lim x.2.1 x.2.2))=false:=by unfold zrq;rw[show Nat.ble (Nat.succ (lim x.2.1 x.2.2)) (x.1^24)=false from by cases hb:Nat.ble (Nat.succ (lim x.2.1 x.2.2)) (x.1^24) with|false=>rfl|true=>have:=Lz4 hb;omega];cases Nat.ble (Nat.succ (x.1^24)) (lim x.2.1 x.2.2)<;>rfl
  refine zF ?_;simp only[zeR,z8,yO,zce,k7,c,yL,yl,zf,hs,zK];rfl
 |succ r ih=>
  intro j hj;have c:=e38 k hx (show j≤x.2.2 by omega);have m:=zwQ k hy (show j<y.2 by omega);rw[ey1]at m;have hlt:=Lz4 (YzF.1 hc.1 j (List.mem_range.2 (by omega)));have hs:decide ((0:Int)<zrq (x.1^24) (lim x.2.1 j))=true:=by unfold zrq;rw[Yze hlt];rfl
  have ea:zy .add (I6 (n+(j:Int))) (I6 1)=some (I6 (n+((j+1:Nat):Int))):=by rw[show n+((j+1:Nat):Int)=n+(j:Int)+1 by omega];exact wD
  have body:zeR (D k) [.one (St (dec (x.1^24))),.one (I6 0)] [St (dec (lim x.2.1 j)),I6 (n+(j:Int))] []=some (.normal,[St (dec (lim x.2.1 (j+1))),I6 (n+((j+1:Nat):Int))],[]):=by simp only[zeR,z8,yO,zce,k7,c,yL,yl,zf,hs,zK,if_true,ea,m]
  rw[yh body];exact ih (j+1) (by omega)
def zoI(f g:Int×Int):Nat:=(g.1*f.2).toNat
def ziS(f g:Int×Int):Nat:=(g.2*f.1).toNat
def shU(f g:Int×Int):Nat×Int:=upN 20 (zoI f g) (ziS f g) 0
def shD(f g:Int×Int):Nat×Int:=dnN 20 (shU f g).1 (ziS f g) (shU f g).2
def shM(f g:Int×Int):Nat:=((prs.find? fun x=>Nat.beq x.1 (shU f g).1&&Nat.beq x.2.1 (shD f g).1).map fun x=>x.2.2).getD 0
def shf(f g:Int×Int):Int:=(shD f g).2+(shM f g:Int)
def zrM(f g:Int×Int):Bool:=
 decide (0≤g.1*f.2)&&decide (0<g.2*f.1)&&Nat.ble (ziS f g) (shU f g).1&&Nat.ble (Nat.succ (shU f g).1) (2*(shD f g).1)&&(prs.any fun x=>Nat.beq x.1 (shU f g).1&&Nat.beq x.2.1 (shD f g).1&&Nat.beq x.2.2 (shM f g))
 && Nat.ble (ziS f g) 1000000&&Nat.ble (zoI f g) 1000000&&Nat.ble (shU f g).1 1000000&&Nat.ble (shM f g) 100&&decide (-1000≤(shU f g).2)&&decide ((shU f g).2≤1000)&&decide (-1000≤(shD f g).2)&&decide ((shD f g).2≤1000)&&decide (-100≤shf f g)&&decide (shf f g≤100)
theorem zrK:(feet.all fun f=>feet.all fun g=>zrM f g)=true:=by kernel_rfl
structure Zu (f g:Int×Int):Prop where
 a:0≤g.1*f.2
 b:0<g.2*f.1
 c:ziS f g≤(shU f g).1
 d:(shU f g).1<2*(shD f g).1
 e:∃x∈prs,x.1=(shU f g).1∧x.2.1=(shD f g).1∧x.2.2=shM f g
 f1:ziS f g≤1000000
 f2:zoI f g≤1000000
 f3:(shU f g).1≤1000000
 f4:shM f g≤100
 g1:-1000≤(shU f g).2
 g2:(shU f g).2≤1000
 g3:-1000≤(shD f g).2
 g4:(shD f g).2≤1000
 h1:-100≤shf f g
 h2:shf f g≤100
theorem zpc{f g:Int×Int}(hf:f∈feet)(hg:g∈feet):Zu f g:=by have h:=YzF.1 (YzF.1 zrK f hf) g hg;unfold zrM at h;simp only[LzC,Yz0]at h;obtain⟨⟨⟨⟨⟨⟨⟨⟨⟨⟨⟨⟨⟨⟨a,b⟩,c⟩,d⟩,e⟩,f1⟩,f2⟩,f3⟩,f4⟩,g1⟩,g2⟩,g3⟩,g4⟩,h1⟩,h2⟩:=h;obtain⟨x,hx,hq⟩:=List.any_eq_true.1 e;simp only[LzC]at hq;exact⟨a,b,Lz4 c,Lz4 d,⟨x,hx,Lz1 hq.1.1,Lz1 hq.1.2,Lz1 hq.2⟩,Lz4 f1,Lz4 f2,Lz4 f3,Lz4 f4,g1,g2,g3,g4,h1,h2⟩
theorem t19(k:Nat)(f g:Int×Int)(hf:f∈feet)(hg:g∈feet):D (k+1) 19 [SA (enF f),SA (enF g)]=some (S1 (I6 (shf f g))):=by
 have H:=zpc hf hg;obtain⟨x,hx,x1,x2,x3⟩:=H.e;have a1:g.1*f.2=((zoI f g:Nat):Int):=by unfold zoI;have:=H.a;omega
 have a2:g.2*f.1=((ziS f g:Nat):Int):=by unfold ziS;have:=H.b;omega
 have hb:=H.b;rw[a2]at hb;have b1:=H.f1;have b2:=H.f2;have b3:=H.f3;have b4:=H.f4;have c1:=H.g1;have c2:=H.g2;have c3:=H.g3;have c4:=H.g4
 have m1:zy .mul (I6 g.1) (I6 f.2)=some (I6 ((zoI f g:Nat):Int)):=by rw[←a1];exact zfn (by omega) (by omega)
 have m2:zy .mul (I6 g.2) (I6 f.1)=some (I6 ((ziS f g:Nat):Int)):=by rw[←a2];exact zfn (by omega) (by omega)
 have lu:=zwc (ziS f g) b1 20 (zoI f g) 0 H.c (by omega) (by omega);have ld:=zwd (I6 (shU f g).2) (shU f g).1 b3 20 (ziS f g) (shU f g).2 H.d (by omega) (by omega) (by omega) b1;have lc:=zwe k x hx (shD f g).2 (by omega) (by omega) (by omega) x.2.2 0 (by omega);have hdn:=YzF.1 zjR x hx;simp only[LzC]at hdn;obtain⟨y,hy,ey⟩:=List.any_eq_true.1 hdn.1.1;simp only[LzC]at ey;have ey1:y.1=x.2.1:=Lz1 ey.1;have o1:=e36 k (zdC hdn.1.2);have p1:=e35 k (zdC hdn.1.2);have o2:=e36 k (zdC hdn.2);have p2:=e35 k (zdC hdn.2);have u0:=zwR k hy;rw[ey1]at u0;rw[x1]at o1 p1 lc;rw[x2]at o2 p2 u0 lc;rw[x3]at lc;rw[show (shD f g).2+((0:Nat):Int)=(shD f g).2 by omega]at lc;have hU:upN 20 (zoI f g) (ziS f g) 0=shU f g:=rfl;have hD:dnN 20 (shU f g).1 (ziS f g) (shU f g).2=shD f g:=rfl;rw[hU]at lu;rw[hD]at ld;unfold enF;rw[D19];unfold P19;have bt:∀{β:Type} (a b:DV) (K:List DS→Option β),bT [none,none] (some (.tup [.one a,.one b])) K=K [.one a,.one b]:=fun _ _ _=>rfl;simp only[m1,m2,zf];rw[lu];simp only[wh,Yya,Yza,z8,yO];rw[ld];simp only[wh,Yya,Yza,z8,yO,o1,o2,yL,p1,p2,bt,zce,k7,u0];rw[lc];rfl
theorem t18(k:Nat)(f g:Int×Int)(hf:f∈feet)(hg:g∈feet):D (k+4) 18 [SA (enF f),SA (enF g)]=some (S1 (I6 0)):=by have c1:=t34 k f.1 f.2;have c2:=t34 k g.1 g.2;rw[zhh hf]at c1;rw[zhh hg]at c2;unfold enF;rw[D18];unfold P18;simp only[c1,c2,yL,xf,zf,zK];rfl
theorem t7(k:Nat)(f g:Int×Int)(hf:f∈feet)(hg:g∈feet):D (k+5) 7 [SA (enF f),SA (enF g)]=some (.tup [.one (I6 (shf f g)),.one (I6 0)]):=by have c1:=t18 k f g hf hg;have c2:=t19 (k+3) f g hf hg;unfold enF at c1 c2 ⊢;rw[D7];unfold P7;simp only[c1,c2,yL,xf,zf,zK];rfl
end Go.Proofs.Tryz.Kn
end
section
namespace Go.Proofs.Tryz.Kn
open Go Go.CE Go.PE
structure Part where
 keys:Nat
 count:Nat
 r0:Nat
 r1:Nat
 s0:Int
 s1:Int
structure Part.ok (p:Part):Prop where
 keys:p.keys<256
 count:p.count<256
 r0:p.r0<256
 r1:p.r1<256
 s0:-128≤p.s0∧p.s0≤127
 s1:-128≤p.s1∧p.s1≤127
def xH(n:Nat)(p:Part):Zm:=⟨((p.r0 % n:Nat):Int),p.s0.tmod 25⟩
def qL(n:Nat)(p:Part):Zm:=⟨((p.r1 % n:Nat):Int),p.s1.tmod 25⟩
def xm(n:Nat)(p:Part):Sl Zm:=
 if p.count % 3=0 then none else if p.count % 3=1 then some [xH n p] else if qL n p=xH n p then some [xH n p] else some [xH n p,qL n p]
theorem zwf(rs:Sl Zn)(hn:0<rs.els.length)(hn2:rs.els.length≤1000000)(p:Part)(hp:p.ok)(i:Nat)(a2 a8 a14 a3 a9 a15 a4 a10 a16 a5 a11 a17 a6 a12 a18:DV)
  (h2:atD [a2,a8,a14] i=U8 (p.count:Int)) (h3:atD [a3,a9,a15] i=U8 (p.r0:Int)) (h4:atD [a4,a10,a16] i=U8 (p.r1:Int)) (h5:atD [a5,a11,a17] i=.int .i8 p.s0) (h6:atD [a6,a12,a18] i=.int .i8 p.s1) (c0 c1:DV):
  yC (zeP a2 a8 a14 i (enL 6 enR rs) a3 a9 a15 a4 a10 a16 a5 a11 a17 a6 a12 a18) [I6 0,c0,c1] [none]=some (.exit 2,[c0,c1],[ocL enD (xm rs.els.length p)]):=by
 obtain⟨n,hnn⟩:∃n,n=rs.els.length:=⟨_,rfl⟩;rw[←hnn]at hn hn2 ⊢;have e1:zy .rem (U8 (p.count:Int)) (U8 3)=some (U8 ((p.count % 3:Nat):Int)):=zmn (b:=3) (by decide);have hm:p.count % 3<3:=Yzz _ (by omega);have e2:y6 .i64 (U8 ((p.count % 3:Nat):Int))=some (I6 ((p.count % 3:Nat):Int)):=v6;have l0:decide ((0:Int)<((n:Nat):Int))=true:=decide_eq_true (by omega);have q0:=hp.r0;have q1:=hp.r1;have q2:=hp.s0;have q3:=hp.s1;have f0:y6 .i64 (U8 (p.r0:Int))=some (I6 (p.r0:Int)):=v6;have f1:y6 .i64 (U8 (p.r1:Int))=some (I6 (p.r1:Int)):=v6;have g0:zy .rem (I6 (p.r0:Int)) (I6 (n:Int))=some (I6 ((p.r0 % n:Nat):Int)):=zmn (by omega);have g1:zy .rem (I6 (p.r1:Int)) (I6 (n:Int))=some (I6 ((p.r1 % n:Nat):Int)):=zmn (by omega);have k0:y6 .i64 (.int .i8 p.s0)=some (I6 p.s0):=v6;have k1:y6 .i64 (.int .i8 p.s1)=some (I6 p.s1):=v6;have m0:zy .rem (I6 p.s0) (I6 25)=some (I6 (p.s0.tmod 25)):=qV _ _ _ (by decide);have m1:zy .rem (I6 p.s1) (I6 25)=some (I6 (p.s1.tmod 25)):=qV _ _ _ (by decide);have i0:u6 2 (I6 0)=some 0:=qU (i:=0) (by decide);have i1:u6 2 (I6 1)=some 1:=qU (i:=1) (by decide);have s0:zy .add (I6 0) (I6 1)=some (I6 1):=wD;have s1:zy .add (I6 1) (I6 1)=some (I6 2):=wD;have t1:fits 16 1=true:=jq (by decide) (by decide);have t2:fits 16 2=true:=jq (by decide) (by decide);have u0:zcP (some [[I6 (xH n p).rank,I6 (xH n p).shift]]) (I6 0)=some 0:=zm0 (i:=0) (by simp);have u1:zsw (some [[I6 (xH n p).rank,I6 (xH n p).shift]]) 0=some [I6 (xH n p).rank,I6 (xH n p).shift]:=rfl;have u2:zlL [1,1] [I6 ((p.r1 % n:Nat):Int),I6 (p.s1.tmod 25)] [I6 (xH n p).rank,I6 (xH n p).shift]=some (decide (qL n p=xH n p)):=zew (qL n p) (xH n p);have ends:∀(j:Nat) (acc:Sl Zm),p.count % 3≤j→zeP a2 a8 a14 i (enL 6 enR rs) a3 a9 a15 a4 a10 a16 a5 a11 a17 a6 a12 a18 [I6 (j:Int),c0,c1] [ocL enD acc]=some (.exit 2,[c0,c1],[ocL enD acc]):=fun j acc hj=>by have:decide ((j:Int)<((p.count % 3:Nat):Int))=false:=qJ hj;simp only[zeP,h2,e1,e2,zf,z8,yO,zI,this,zK];rfl
 have r0:0<p.count % 3→zeP a2 a8 a14 i (enL 6 enR rs) a3 a9 a15 a4 a10 a16 a5 a11 a17 a6 a12 a18 [I6 0,c0,c1] [none]=some (.normal,[I6 1,c0,c1],[ocL enD (some [xH n p])]):=fun h=>by have:decide ((0:Int)<((p.count % 3:Nat):Int))=true:=decide_eq_true (by omega);simp only[zeP,h2,e1,e2,zf,z8,yO,zI,this,zK,if_true,yy,←hnn,yl,l0,i0,uM,h3,f0,g0,h5,k0,m0,xK,zaE,zkH,Yzw,Yz1,Yzh,t1,zaW,s0,zfR,Yyb];rfl
 have r1:1<p.count % 3→zeP a2 a8 a14 i (enL 6 enR rs) a3 a9 a15 a4 a10 a16 a5 a11 a17 a6 a12 a18 [I6 1,c0,c1] [ocL enD (some [xH n p])]=some (.normal,[I6 2,c0,c1],[ocL enD (if qL n p=xH n p then some [xH n p] else some [xH n p,qL n p])]):=fun h=>by
  have:decide ((1:Int)<((p.count % 3:Nat):Int))=true:=decide_eq_true (by omega);have b10:((1:Int)==0)=false:=rfl;simp only[zeP,h2,e1,e2,zf,z8,yO,zI,this,zK,if_true,yy,←hnn,yl,l0,i1,uM,jw,h4,f1,g1,h6,k1,m1,xK,b10,Yzk,if_false,zaE,znb,Yzv,List.map_nil,u0,u1,enD,u2,zkG,Yzw,Yz1,Yzh,t2,zaW,s1,zfQ];by_cases hd:qL n p=xH n p
  ·simp only[hd,decide_true,Yyd,Yzk,if_false,if_true];rfl
  ·simp only[hd,decide_false,Bool.not_false,if_false,if_true];rfl
 unfold xm;by_cases z0:p.count % 3=0
 ·rw[Yzd z0];exact zF (ends 0 none (by omega))
 ·rw[Yzc z0,yh (r0 (by omega))];by_cases z1:p.count % 3=1
  ·rw[Yzd z1];exact zF (ends 1 _ (by omega))
  ·rw[Yzc z1,yh (r1 (by omega))];exact zF (ends 2 _ (by omega))
def jG(n:Nat)(high:Int):List Part→Int→Sl Seg→Sl Seg
 | [],_,acc=>acc
 |p::l,a,acc=>if a≤high then jG n high l (min (a+((p.keys % 16:Nat):Int)) high+1+((p.keys / 128:Nat):Int)) (some (acc.els++[⟨a,min (a+((p.keys % 16:Nat):Int)) high,xm n p⟩])) else acc
theorem l6(rs:Sl Zn)(hn:0<rs.els.length)(hn2:rs.els.length≤1000000)(high:Int)(p:Part)(hp:p.ok)(i:Nat)(hi:i<3)(a1 a7 a13 a2 a8 a14 a3 a9 a15 a4 a10 a16 a5 a11 a17 a6 a12 a18:DV)
  (h1:atD [a1,a7,a13] i=U8 (p.keys:Int)) (h2:atD [a2,a8,a14] i=U8 (p.count:Int)) (h3:atD [a3,a9,a15] i=U8 (p.r0:Int)) (h4:atD [a4,a10,a16] i=U8 (p.r1:Int)) (h5:atD [a5,a11,a17] i=.int .i8 p.s0) (h6:atD [a6,a12,a18] i=.int .i8 p.s1) (c0 c1 c2:DV)
  (a:Int) (ha:-1000000≤a∧a≤1000000) (hh:-1000000≤high∧high≤1000000) (acc:Sl Seg) (hacc:acc.els.length≤1000):
  ztR (I6 high) a1 a7 a13 a2 a8 a14 (enL 6 enR rs) a3 a9 a15 a4 a10 a16 a5 a11 a17 a6 a12 a18 [I6 (i:Int),I6 a,c0,c1,c2] [ocL enS acc] =
   if a≤high then some (.normal,[I6 ((i+1:Nat):Int),I6 (min (a+((p.keys % 16:Nat):Int)) high+1+((p.keys / 128:Nat):Int)),c0,c1,c2],[ocL enS (some (acc.els++[⟨a,min (a+((p.keys % 16:Nat):Int)) high,xm rs.els.length p⟩]))])
   else some (.exit 0,[c0,c1,c2],[ocL enS acc]):=by
 have hlt:decide ((i:Int)<3)=true:=decide_eq_true (by omega);have hk:=hp.keys;have hm:p.keys % 16<16:=Yzz _ (by omega);have hd:p.keys / 128<2:=by omega
 have en:u6 3 (I6 (i:Int))=some i:=qU hi;have e1:zy .rem (U8 (p.keys:Int)) (U8 16)=some (U8 ((p.keys % 16:Nat):Int)):=zmn (b:=16) (by decide);have e2:y6 .i64 (U8 ((p.keys % 16:Nat):Int))=some (I6 ((p.keys % 16:Nat):Int)):=v6;have e3:zy .add (I6 a) (I6 ((p.keys % 16:Nat):Int))=some (I6 (a+((p.keys % 16:Nat):Int))):=wD;have hmin:-1000000≤min (a+((p.keys % 16:Nat):Int)) high∧min (a+((p.keys % 16:Nat):Int)) high≤1000000:=by omega
 have e4:zy .add (I6 (min (a+((p.keys % 16:Nat):Int)) high)) (I6 1)=some (I6 (min (a+((p.keys % 16:Nat):Int)) high+1)):=wD;have e5:y6 .i64 (U8 (p.keys:Int))=some (I6 (p.keys:Int)):=v6;have e6:zy .quo (I6 (p.keys:Int)) (I6 128)=some (I6 ((p.keys / 128:Nat):Int)):=zv6 (b:=128) (by decide) (wrap64 (by omega) (by omega));have e7:zy .add (I6 (min (a+((p.keys % 16:Nat):Int)) high+1)) (I6 ((p.keys / 128:Nat):Int))=some (I6 (min (a+((p.keys % 16:Nat):Int)) high+1+((p.keys / 128:Nat):Int))):=wD;have ea:zy .add (I6 (i:Int)) (I6 1)=some (I6 ((i+1:Nat):Int)):=wD;have ef:fits 40 (acc.els.length+1)=true:=jq (by decide) (by omega);have inner:=zwf rs hn hn2 p hp i a2 a8 a14 a3 a9 a15 a4 a10 a16 a5 a11 a17 a6 a12 a18 h2 h3 h4 h5 h6 (I6 a) (I6 (min (a+((p.keys % 16:Nat):Int)) high));have pu:=zcW (f:=enS) acc ⟨a,min (a+((p.keys % 16:Nat):Int)) high,xm rs.els.length p⟩;by_cases hc:a≤high
 ·rw[Yzd hc];simp only[ztR,z8,yO,zI,zf,hlt,zK,if_true,uT,hc,decide_true,en,h1,e1,e2,e3,zpz,inner,wh,zaE,zfu,zc3,Yzw,Yz1,ef,zaW,e4,e5,e6,e7,ea,kZ,←pu];rfl
 ·rw[Yzc hc];simp only[ztR,z8,yO,zI,zf,hlt,zK,if_true,uT,hc,decide_false,Yzk,if_false,zaE]
structure Zo where
 feet:Nat
 p0:Part
 p1:Part
 p2:Part
structure Zo.ok (z:Zo):Prop where
 feet:z.feet<256
 p0:z.p0.ok
 p1:z.p1.ok
 p2:z.p2.ok
def zcd(p:Part):List DV:=[U8 (p.keys:Int),U8 (p.count:Int),U8 (p.r0:Int),U8 (p.r1:Int),.int .i8 p.s0,.int .i8 p.s1]
def zcc(z:Zo):List DV:=U8 (z.feet:Int)::(zcd z.p0++zcd z.p1++zcd z.p2)
def xO(x:Place)(z:Zo)(name:ByteArray):Zr:=⟨name,(kf z.feet).1,(kf z.feet).2,jG x.ranks.els.length x.high [z.p0,z.p1,z.p2] x.low none⟩
theorem t6(k:Nat)(x:Place)(hn:0<x.ranks.els.length)(hn2:x.ranks.els.length≤1000000)(hl:-1000≤x.low∧x.low≤1000)(hh:-1000≤x.high∧x.high≤1000)(z:Zo)(hz:z.ok)(name:ByteArray):
  D (k+3) 6 [SA (enP x),SA (zcc z),S1 (St name)]=some (SA (qA (xO x z name))):=by
 unfold enP zcc zcd;simp only[List.cons_append,Yyb];rw[D6];unfold P6;simp only[t17 k hz.feet,ztf (show[I6 (kf z.feet).1,I6 (kf z.feet).2].length=2 from rfl),uM,jw];have s:=fun(p:Part) (hp:p.ok) (i:Nat) (hi:i<3)=>l6 x.ranks hn hn2 x.high p hp i hi (U8 (z.p0.keys:Int)) (U8 (z.p1.keys:Int)) (U8 (z.p2.keys:Int)) (U8 (z.p0.count:Int)) (U8 (z.p1.count:Int)) (U8 (z.p2.count:Int)) (U8 (z.p0.r0:Int)) (U8 (z.p1.r0:Int)) (U8 (z.p2.r0:Int)) (U8 (z.p0.r1:Int)) (U8 (z.p1.r1:Int)) (U8 (z.p2.r1:Int)) (.int .i8 z.p0.s0) (.int .i8 z.p1.s0) (.int .i8 z.p2.s0) (.int .i8 z.p0.s1) (.int .i8 z.p1.s1) (.int .i8 z.p2.s1);have s0:=s z.p0 hz.p0 0 (by omega) rfl rfl rfl rfl rfl rfl (St name) (I6 (kf z.feet).1) (I6 (kf z.feet).2);have s1:=s z.p1 hz.p1 1 (by omega) rfl rfl rfl rfl rfl rfl (St name) (I6 (kf z.feet).1) (I6 (kf z.feet).2);have s2:=s z.p2 hz.p2 2 (by omega) rfl rfl rfl rfl rfl rfl (St name) (I6 (kf z.feet).1) (I6 (kf z.feet).2);have hk0:=hz.p0.keys;have hk1:=hz.p1.keys;have hk2:=hz.p2.keys;have s0:=s0 x.low (by omega) (by omega) none (by decide);unfold xO jG;rw[show (I6 0:DV)=I6 ((0:Nat):Int) from rfl,show (none:OC)=ocL enS none from rfl];have fin:∀v:Sl Seg,wx (some (Zg.exit 0,[St name,I6 (kf z.feet).1,I6 (kf z.feet).2],[ocL enS v])) (fun i42 L40 M41=>bif Nat.beq i42 0 then(some (SA ([(zJ L40 0),(zJ L40 1),(zJ L40 2),(mkL 3 (wE M41 0))]))) else(none)) (fun _ _=>some (SA ([(.str ⟨#[]⟩),(I6 0),(I6 0),.nils]))) =
   some (SA (qA ⟨name,(kf z.feet).1,(kf z.feet).2,v⟩)):=fun v=>by
  simp only[wh,z8,yO,zaE,zfu,qA];rfl
 by_cases c0:x.low≤x.high
 ·rw[Yzd c0]at s0 ⊢;rw[yh s0];generalize hg:(⟨x.low,min (x.low+((z.p0.keys % 16:Nat):Int)) x.high,xm x.ranks.els.length z.p0⟩:Seg)=g0;generalize hq:min (x.low+((z.p0.keys % 16:Nat):Int)) x.high+1+((z.p0.keys / 128:Nat):Int)=q0;have s1:=s1 q0 (by omega) (by omega) (some (Sl.els (none:Sl Seg)++[g0])) (by simp);unfold jG;by_cases c1:q0≤x.high
  ·rw[Yzd c1]at s1 ⊢;rw[yh s1];generalize hg1:(⟨q0,min (q0+((z.p1.keys % 16:Nat):Int)) x.high,xm x.ranks.els.length z.p1⟩:Seg)=g1;generalize hq1:min (q0+((z.p1.keys % 16:Nat):Int)) x.high+1+((z.p1.keys / 128:Nat):Int)=q1;have s2:=s2 q1 (by omega) (by omega) (some (Sl.els (some (Sl.els (none:Sl Seg)++[g0]))++[g1])) (by simp);unfold jG;by_cases c2:q1≤x.high
   ·rw[Yzd c2]at s2 ⊢;rw[yh s2,zF (id:=0) (L':=[St name,I6 (kf z.feet).1,I6 (kf z.feet).2]) (M':=[ocL enS (some (Sl.els (some (Sl.els (some (Sl.els (none:Sl Seg)++[g0]))++[g1]))++[⟨q1,min (q1+((z.p2.keys % 16:Nat):Int)) x.high,xm x.ranks.els.length z.p2⟩]))]) rfl];exact fin _
   ·rw[Yzc c2]at s2 ⊢;rw[zF s2];exact fin _
  ·rw[Yzc c1]at s1 ⊢;rw[zF s1];exact fin _
 ·rw[Yzc c0]at s0 ⊢;rw[zF s0];exact fin _
end Go.Proofs.Tryz.Kn
end
section
namespace Go.Proofs.Tryz.Kn
open Go Go.CE Go.PE
theorem zmt(n:Nat):(zcn n).any xC=false:=by
 rw[List.any_eq_false];intro x hx;simp only[zcn,List.mem_map]at hx;obtain⟨k,_,rfl⟩:=hx;have:k % 3<3:=Yzz _ (by omega);have h1:¬(1+((k % 3:Nat):Int)<0):=by omega
 have h2:¬(1000000<1+((k % 3:Nat):Int)):=by omega
 simp only[xC,h1,h2,decide_false,Bool.or_self,Yzk,not_false_eq_true]
theorem znh{i:Nat}(h:i<3):isName (zni i)=true:=by
 match i,h with
 |0,_=>rfl
 |1,_=>rfl
 |2,_=>rfl
theorem zaI{i:Nat}(h:i<3)(r:Row):wV (xd i r)=0:=by
 have hm:r.first % 40<40:=Yzz _ (by omega)
 have hp:r.pipes % 25<25:=Yzz _ (by omega);have h1:-256≤30+((r.first % 40:Nat):Int):=by omega
 have h2:30+((r.first % 40:Nat):Int)≤256:=by omega
 have h3:¬(1+r.pipes % 25=0):=by omega
 have h4:¬(128<1+r.pipes % 25):=by omega
 unfold wV xd;simp only[znh h,show isName zsy=true from rfl,zlz,Yyd,Yzk,if_false,h1,h2,decide_true,Bool.and_self,we,zac,h3,h4,zmt,ne_eq,not_true]
theorem zie(y:Site):(placeOf y).ok:=by
 refine⟨by simp[placeOf],fun r hr=>?_⟩;simp only[placeOf,we,YzL,YzK,or_false]at hr;have e:∀(i:Nat) (r:Row),zdY (xd i r):=fun i r=>by have hp:r.pipes % 25<25:=Yzz _ (by omega);simp only[zdY,xd,we,zac];omega
 rcases hr with rfl|rfl|rfl<;>exact e _ _
theorem zar(y:Site):36≤(placeOf y).low∧(placeOf y).low≤59∧(placeOf y).low≤(placeOf y).high∧(placeOf y).high≤74:=by have ha:y.low % 24<24:=Yzz _ (by omega);have hb:y.keys % 16<16:=Yzz _ (by omega);simp only[placeOf];omega
theorem zfd(y:Site):wI (placeOf y)=0:=by
 obtain⟨h1,h2,h3,h4⟩:=zar y;have hr:right (placeOf y).low (placeOf y).high=0:=by unfold right;rw[Yzc (by omega),Yzc (by omega),Yzc (by omega)]
 unfold wI;rw[hr];simp only[placeOf,we,wH,zaI (show 0<3 by decide),zaI (show 1<3 by decide),zaI (show 2<3 by decide)];rfl
theorem zom{s:Int}(_h:-128≤s∧s≤127):-127≤s.tmod 25∧s.tmod 25≤127:=by have h1:=Int.tmod_lt_of_pos s (show (0:Int)<25 by decide);have h2:=Int.lt_tmod_of_pos s (show (0:Int)<25 by decide);omega
theorem ziQ{n:Nat}(hn:0<n){p:Part}(hp:p.ok):yF n (xm n p).els=0:=by
 have a0:p.r0 % n<n:=Yzz _ hn;have a1:p.r1 % n<n:=Yzz _ hn;obtain⟨b0,c0⟩:=zom hp.s0;obtain⟨b1,c1⟩:=zom hp.s1;have g:∀(q r:List Zm) (d:Zm),0≤d.rank→d.rank<(n:Int)→-127≤d.shift→d.shift≤127→q.any (fun x=>decide (d=x))=false→wz n q (d::r)=wz n (q++[d]) r:=fun q r d k1 k2 k3 k4 k5=>by show (if d.rank<0 then _ else _)=_;rw[Yzc (by omega),Yzc (by omega),Yzc (by omega),Yzc (by omega),Yzc (by simp[k5])]
 have g0:∀r,wz n [] (xH n p::r)=wz n [xH n p] r:=fun r=>g [] r _ (by show (0:Int)≤((p.r0 % n:Nat):Int);omega) (by show ((p.r0 % n:Nat):Int)<_;omega) b0 c0 rfl;have e0:∀q,wz n q []=0:=fun q=>by unfold wz;rfl
 unfold xm;by_cases z0:p.count % 3=0
 ·rw[Yzd z0];unfold yF;rw[Yzc (by simp)];exact e0 _
 rw[Yzc z0];by_cases z1:p.count % 3=1
 ·rw[Yzd z1];unfold yF;rw[Yzc (by simp),we,g0];exact e0 _
 rw[Yzc z1];by_cases z2:qL n p=xH n p
 ·rw[Yzd z2];unfold yF;rw[Yzc (by simp),we,g0];exact e0 _
 rw[Yzc z2];unfold yF;rw[Yzc (by simp),we,g0,g [xH n p] [] (qL n p) (by show (0:Int)≤((p.r1 % n:Nat):Int);omega) (by show ((p.r1 % n:Nat):Int)<_;omega) b1 c1 (by simp[z2])];exact e0 _
theorem zfT(n:Nat)(p:Part):(xm n p).els.length≤2:=by
 unfold xm
 repeat (split;· simp)
 simp
def zgs(n:Nat)(high:Int):List Part→Int→List Seg
 | [],_=>[]
 |p::l,a=>if a≤high then⟨a,min (a+((p.keys % 16:Nat):Int)) high,xm n p⟩::zgs n high l (min (a+((p.keys % 16:Nat):Int)) high+1+((p.keys / 128:Nat):Int)) else[]
theorem zbF(n:Nat)(high:Int):∀(l:List Part) (a:Int) (acc:Sl Seg),(jG n high l a acc).els=acc.els++zgs n high l a
 | [],a,acc=>by simp[jG,zgs]
 |p::l,a,acc=>by
  unfold jG zgs;by_cases h:a≤high
  ·rw[Yzd h,Yzd h,zbF n high l];simp
  ·rw[Yzc h,Yzc h];simp
theorem zgq(n:Nat)(high:Int):∀(l:List Part) (a:Int),(zgs n high l a).length≤l.length
 | [],_=>by simp[zgs]
 |p::l,a=>by
  unfold zgs;split
  ·simp only[Yzw];have:=zgq n high l (min (a+((p.keys % 16:Nat):Int)) high+1+((p.keys / 128:Nat):Int));omega
  ·simp
theorem zcz{n:Nat}{high:Int}:∀{l:List Part} {a:Int} {g:Seg},g∈zgs n high l a→a≤g.lo∧g.lo≤g.hi∧g.hi≤high∧∃p∈l,g.draws=xm n p
 | [],_,g,h=>by cases h
 |p::l,a,g,h=>by
  unfold zgs at h;split at h
  ·rename_i hc;rcases YzL.1 h with rfl|h
   ·exact⟨by simp,by simp only;omega,by simp only;omega,p,by simp,rfl⟩
   ·obtain⟨h1,h2,h3,q,h4,h5⟩:=zcz h;exact⟨by omega,h2,h3,q,by simp[h4],h5⟩
  ·cases h
theorem zgr{x:Place}(hn:0<x.ranks.els.length):∀{l:List Part} {a:Int} {q:Option Int},(∀p∈l,p.ok)→x.low≤a→(∀t,q=some t→t<a)→wT x (zgs x.ranks.els.length x.high l a) q=0
 | [],_,_,_,_,_=>by simp[zgs,wT]
 |p::l,a,q,hl,ha,hq=>by
  unfold zgs;by_cases h:a≤x.high
  ·rw[Yzd h];have hd:=ziQ hn (hl p (by simp));unfold wT;have hlo:leO a q=false:=by
    cases q with
    |none=>rfl
    |some t=>have:=hq t rfl;exact decide_eq_false (by omega)
   simp only;rw[Yzc (by omega),Yzc (by omega),Yzc (by omega),hlo,Yzc (by decide),hd,Yzc (by decide)];exact zgr hn (fun p hp=>hl p (by simp[hp])) (by omega) (fun t ht=>by cases ht;omega)
  ·rw[Yzc h];simp[wT]
def u7:ByteArray:=⟨#[115]⟩
theorem zmW{z:Zo}(hz:z.ok):∀p∈[z.p0,z.p1,z.p2],p.ok:=fun p hp=>by
 simp only[YzL,YzK,or_false]at hp;rcases hp with rfl|rfl|rfl
 ·exact hz.p0
 ·exact hz.p1
 ·exact hz.p2
theorem w8(x:Place)(z:Zo)(name:ByteArray):(xO x z name).segs.els=zgs x.ranks.els.length x.high [z.p0,z.p1,z.p2] x.low:=by show (jG _ _ _ _ none).els=_;rw[zbF];rfl
theorem kK(x:Place)(z:Zo)(name:ByteArray):(xO x z name).segs.els.length≤3:=by rw[w8];exact zgq _ _ _ _
theorem zdG{x:Place}{z:Zo}{name:ByteArray}{g:Seg}(h:g∈(xO x z name).segs.els):g.draws.els.length≤2:=by rw[w8]at h;obtain⟨_,_,_,p,_,hd⟩:=zcz h;rw[hd];exact zfT _ _
theorem zje(x:Place)(z:Zo)(name:ByteArray):(xO x z name).ok:=
 ⟨by have:=kK x z name;omega,fun g hg=>by have:=zdG hg;unfold zpd;omega⟩
theorem zhQ{x:Place}{z:Zo}(hx:wI x=0)(hn:0<x.ranks.els.length)(hc:x.low≤x.high)(hz:z.ok):zcu x (xO x z u7)=0:=by
 have h1:=kK x z u7;have h2:(xO x z u7).segs.els.length≠0:=by rw[w8];unfold zgs;rw[Yzd hc];simp
 have h3:wT x (xO x z u7).segs.els none=0:=by rw[w8];exact zgr hn (zmW hz) (Int.le_refl _) (fun t ht=>by cases ht)
 unfold zcu;have hf:xG (xO x z u7).num (xO x z u7).den=0:=zlz _;rw[hx,hf,h3,Yzc (by decide),show isName (xO x z u7).name=true from rfl,Yzc (by decide),Yzc (by decide),Yzc h2,Yzc (by omega)]
section
variable (y:Site) (s:Zr)
def vY(n:Int):Zn:=([xd 0 y.r0,xd 1 y.r1,xd 2 y.r2][n.toNat]?).getD (xd 0 y.r0)
theorem zbP{n:Int}(h0:0≤n)(h1:n<3)(k:IntKind):jO 6 (enL 6 enR (placeOf y).ranks) (.int k n)=some (enR (vY y n))∧((vY y n).num,(vY y n).den)∈feet:=by
 have hm:∀(i:Nat) (r:Row),((xd i r).num,(xd i r).den)∈feet:=fun i r=>Lz3 (qZ r.feet);have e:n=((n.toNat:Nat):Int):=by omega
 have hn:n.toNat=0∨n.toNat=1∨n.toNat=2:=by omega
 unfold vY;rw[e,uS];rcases hn with h|h|h<;>simp only[Int.toNat_natCast,h]
 ·exact⟨rfl,hm _ _⟩
 ·exact⟨rfl,hm _ _⟩
 ·exact⟨rfl,hm _ _⟩
def zme(g:Seg):Bool:=match g.draws.els with
 | []=>true
 |d::_=>shf (s.num,s.den) ((vY y d.rank).num,(vY y d.rank).den)==d.shift
def zt4(g:Seg):Prop:=∀d∈g.draws.els,0≤d.rank∧d.rank<3
variable {s} (hs:(s.num,s.den)∈feet)
include hs
theorem l3(k:Nat)(l:Sl Seg)(hl:l.els.length≤1000)(e0 e1 e2:DV):∀(r:List Seg) (i:Nat) (b:Bool),l.els.drop i=r→(∀g∈r,zt4 g)→
  yC (zrb (D (k+5)) [e0,I6 s.num,I6 s.den,enL 3 enS l] [enL 6 enR (placeOf y).ranks,e1,e2]) [I6 (i:Int),Bo b] []=some (.exit 0,[Bo (b&&r.all (zme y s))],[]):=by
 intro r
 induction r with
 |nil=>intro i b h _;refine zF ?_;simp only[zrb,z8,yO,uM,jw,yy,zI,zf,qJ (wN h),zK,List.all_nil,Yz8];rfl
 |cons g r ih=>
  intro i b h hr;have h1:=ur h;have ix:=wl (st:=3) (f:=enS) h .i64;have ea:zy .add (I6 (i:Int)) (I6 1)=some (I6 ((i+1:Nat):Int)):=wD;have body:zrb (D (k+5)) [e0,I6 s.num,I6 s.den,enL 3 enS l] [enL 6 enR (placeOf y).ranks,e1,e2] [I6 (i:Int),Bo b] []=some (.normal,[I6 ((i+1:Nat):Int),Bo (b&&zme y s g)],[]):=by
   cases hd:g.draws.els with
   |nil=>have hz:decide ((0:Int)<((0:Nat):Int))=false:=rfl;simp only[zrb,z8,yO,uM,jw,yy,zI,zf,zix h1,zK,if_true,ix,enS,hd,Yz1,yl,hz,Yzk,if_false,ea,zme,Yz8]
   |cons d ds=>
    obtain⟨a0,a1⟩:=hr g (Yzj ..) d (by rw[hd];exact Yzj ..);have hp:decide ((0:Int)<((ds.length+1:Nat):Int))=true:=decide_eq_true (by omega);have id:jO 2 (enL 2 enD g.draws) (I6 0)=some (enD d):=by have:=uS (st:=2) (f:=enD) .i64 g.draws 0;rw[hd]at this;exact this
    obtain⟨ir,hf⟩:=zbP y a0 a1 .i64;have c:=t7 k (s.num,s.den) ((vY y d.rank).num,(vY y d.rank).den) hs hf;unfold enF at c;have bt:∀{β:Type} (a b:DV) (K:List DS→Option β),bT [none,none] (some (.tup [.one a,.one b])) K=K [.one a,.one b]:=fun _ _ _=>rfl;cases b with
    |false=>simp only[zrb,z8,yO,uM,jw,yy,zI,zf,zix h1,zK,if_true,ix,enS,hd,Yzw,yl,hp,id,enD,ir,enR,c,bt,ea,Yzk,if_false,Bool.false_and]
    |true=>simp only[zrb,z8,yO,uM,jw,yy,zI,zf,zix h1,zK,if_true,ix,enS,hd,Yzw,yl,hp,id,enD,ir,enR,c,bt,ea,zce,zlR,k7,xK,beq_self_eq_true,zme,Yz4]
  rw[yh body,ih (i+1) _ (xU h) (fun x hx=>hr x (Yzi _ hx)),Yyc,Bool.and_assoc]
theorem l8(k:Nat)(l:Sl Seg)(hl:l.els.length≤1000):∀(r:List Seg) (i:Nat),l.els.drop i=r→(∀g∈r,zt4 g)→
  yC (zru (D (k+5)) (I6 (l.els.length:Int)) (enL 3 enS l) (enL 6 enR (placeOf y).ranks) (I6 s.num) (I6 s.den)) [I6 (i:Int)] []=some (if r.all (zme y s)=true then(.exit 0,[],[]) else(.ret,[Bo false,I6 0],[])):=by
 intro r
 induction r with
 |nil=>intro i h _;refine zF ?_;simp only[zru,z8,zI,zf,qJ (wN h),zK,List.all_nil];rfl
 |cons g r ih=>
  intro i h hr;have h1:=ur h;have ix:=wl (st:=3) (f:=enS) h .i64;have ea:zy .add (I6 (i:Int)) (I6 1)=some (I6 ((i+1:Nat):Int)):=wD;have body:zru (D (k+5)) (I6 (l.els.length:Int)) (enL 3 enS l) (enL 6 enR (placeOf y).ranks) (I6 s.num) (I6 s.den) [I6 (i:Int)] []=some (if zme y s g=true then(.normal,[I6 ((i+1:Nat):Int)],[]) else(.ret,[Bo false,I6 0],[])):=by
   cases hd:g.draws.els with
   |nil=>simp only[zru,z8,uM,jw,yy,zI,zf,zix h1,zK,if_true,ix,enS,hd,Yz1,xK,ea,zme];rfl
   |cons d ds=>
    obtain⟨a0,a1⟩:=hr g (Yzj ..) d (by rw[hd];exact Yzj ..);have hz:(((ds.length+1:Nat):Int)==0)=false:=beq_eq_false_iff_ne.2 (by omega);have id:jO 2 (enL 2 enD g.draws) (I6 0)=some (enD d):=by have:=uS (st:=2) (f:=enD) .i64 g.draws 0;rw[hd]at this;exact this
    obtain⟨ir,hf⟩:=zbP y a0 a1 .i64;have c:=t7 k (s.num,s.den) ((vY y d.rank).num,(vY y d.rank).den) hs hf;unfold enF at c;have bt:∀{β:Type} (a b:DV) (K:List DS→Option β),bT [none,none] (some (.tup [.one a,.one b])) K=K [.one a,.one b]:=fun _ _ _=>rfl;simp only[zru,z8,uM,jw,yy,zI,zf,zix h1,zK,if_true,ix,enS,hd,Yzw,xK,hz,Yzk,if_false,id,enD,ir,enR,c,bt,ea,zce,zlR,k7,xf,beq_self_eq_true,Yyd,zme];cases shf (s.num,s.den) ((vY y d.rank).num,(vY y d.rank).den)==d.shift<;>rfl
  by_cases hc:zme y s g=true
  ·rw[Yzd hc]at body;rw[yh body,ih (i+1) (xU h) (fun x hx=>hr x (Yzi _ hx)),Yyc,hc,Yz4]
  ·rw[Yzc hc]at body;rw[yp body,Yyc,(Bool.not_eq_true _).mp hc,Bool.false_and];rfl
end
theorem t3(k:Nat)(y:Site)(hy:y.ok)(z:Zo)(hz:z.ok):D (k+14) 3 [SA (zcb y),SA (zcc z)]=some (S1 (Bo true)):=by
 have kn:=D4 (k+13);have cp:=t5 (k+10) y hy;obtain⟨h1,h2,h3,h4⟩:=zar y;have cm:=t6 (k+10) (placeOf y) (by simp[placeOf]) (by simp[placeOf]) ⟨by omega,by omega⟩ ⟨by omega,by omega⟩ z hz u7;have he:=zhQ (z:=z) (zfd y) (by simp[placeOf]) h3 hz;have ok:=zje (placeOf y) z u7;have hlen:=kK (placeOf y) z u7;have hfeet:((xO (placeOf y) z u7).num,(xO (placeOf y) z u7).den)∈feet:=Lz3 (qZ z.feet);have hseg:∀g∈(xO (placeOf y) z u7).segs.els,zt4 g:=fun g hg d hd=>by
  rw[w8]at hg;obtain⟨_,_,_,p,_,e⟩:=zcz hg;rw[e]at hd;have hr:(placeOf y).ranks.els.length=3:=rfl;rw[hr]at hd;have a0:p.r0 % 3<3:=Yzz _ (by omega);have a1:p.r1 % 3<3:=Yzz _ (by omega);have m0:0≤(xH 3 p).rank∧(xH 3 p).rank<3:=by unfold xH;simp only;omega
  have m1:0≤(qL 3 p).rank∧(qL 3 p).rank<3:=by unfold qL;simp only;omega
  unfold xm at hd;split at hd
  ·simp at hd
  ·split at hd
   ·simp at hd;rw[hd];exact m0
   ·split at hd
    ·simp at hd;rw[hd];exact m0
    ·simp at hd;rcases hd with rfl|rfl
     ·exact m0
     ·exact m1
 have cc:=t20 (k+5) (placeOf y) (xO (placeOf y) z u7) (zie y) ok;rw[he]at cc;generalize xO (placeOf y) z u7=s at cm cc ok hlen hfeet hseg;have l1:=l3 y hfeet (k+8) s.segs (by omega) (St s.name) (I6 (placeOf y).low) (I6 (placeOf y).high) s.segs.els 0 true rfl hseg;have l2:=l8 y hfeet (k+7) s.segs (by omega) s.segs.els 0 rfl hseg;have ca:D (k+13) 8 [SA (enP (placeOf y)),SA (qA s)]=some (.tup [.one (Bo (s.segs.els.all (zme y s))),.one (I6 0)]):=by unfold enP qA at cc ⊢;rw[D8];unfold P8;simp only[cc,yL,xf,zf,beq_self_eq_true,Yyd,zK,Yzk,if_false,yy];rw[show (I6 0:DV)=I6 ((0:Nat):Int) from rfl,l2];cases s.segs.els.all (zme y s)<;>rfl
 unfold u7 at cm;unfold enP qA at cm ca;unfold enP at cp;simp only[zcb,ziP,zcc,zcd,List.cons_append,Yyb]at cp cm ⊢;rw[D3];unfold P3;have e3:∀{β:Type} (a b c:DV) (K:List DV→Option β),bA 3 (some (SA [a,b,c])) K=K [a,b,c]:=fun _ _ _ _=>rfl;have e4:∀{β:Type} (a b c d:DV) (K:List DV→Option β),bA 4 (some (SA [a,b,c,d])) K=K [a,b,c,d]:=fun _ _ _ _ _=>rfl;have bt:∀{β:Type} (a b:DV) (K:List DS→Option β),bT [none,none] (some (.tup [.one a,.one b])) K=K [.one a,.one b]:=fun _ _ _=>rfl;have eb (b:Bool):eqD 0 (Bo b) (Bo b)=some true:=by cases b<;>rfl
 simp only[kn,yL,vg,zf,Yyd,zK,Yzk,if_false,cp,e3,uM,jw,cm,e4];rw[show (I6 0:DV)=I6 ((0:Nat):Int) from rfl];rw[l1];simp only[wh,Yya,Yza,ca,bt,zce,zlR,k7,xK,zf,z8,Yz4,eb];rfl
end Go.Proofs.Tryz.Kn
end
