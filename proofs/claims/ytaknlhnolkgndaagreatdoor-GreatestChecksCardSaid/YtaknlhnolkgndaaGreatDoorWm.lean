/-
  Lemmas. No condition.
-/
import Derived.Test.YtaknlhnolkgndaaGreatDoorVd
import Derived.Test.YtaknlhnolkgndaaGreatDoorZj
import Derived.Test.YtaknlhnolkgndaaGreatDoorZl
import Derived.Test.YtaknlhnolkgndaaGreatDoorProg
set_option linter.unusedSimpArgs false
set_option linter.unusedVariables false
noncomputable section
namespace Go.Proofs.Tryz.Kn
open Go Go.CE Go.PE
abbrev prog:Program:=Tryz.prog
def zn5:Nat->Bool:=fun g=>match g with|26=>true|_=>false
abbrev redI:Red:=zw0
def an0:Nat->Option LA:=fun _=>none
def zyB:Nat->List PA->Nat->Nat->Option LA:=fun _ _ _ _=>none
abbrev pF(O:Orc)(an:Nat->Option LA)(g:Nat)(args:List DA):Option DA:=zte prog O zn5 (inl prog O zn5 zyB redI 5) an g args
def zhY(O:Orc)(g:DV)(e:List DV)(a:DV)(b:DV)(c:DV)(d:DV)(f:DV)(h:DV)(j:DV):Option DA:=za (zg .eql g (I6 0)) fun n=>ifB n (some (S1 (.bool true))) (bT [none,none] (O 15 [SA [atD e 0,atD e 1,atD e 2,atD e 3,a,b,c,d,f,h,j],.s (.one .nils)]) fun l=>bT [none,none] (O 16 [SA [atD e 0,atD e 1,atD e 2,atD e 3,a,b,c,d,f,h,j],.s (.one .nils),.s (.one .nils)]) fun m=>bT [some 3,none] (O 7 [SA [atD e 0,atD e 1,atD e 2,atD e 3,a,b,c,d,f,h,j]]) fun k=>za (zec (dsO (wX l 0))) fun o=>ifB o (za (zg .eql (dsO (wX m 0)) (I6 0)) fun p=>ifB p (za (zg .eql (atD (dsA (wX k 0)) 1) (I6 0)) fun q=>ifB q (za (xl (atD (dsA (wX k 0)) 0)) fun r=>za (xl (atD (dsA (wX k 0)) 2)) fun t=>za (zg .add r t) fun v=>za (zg .eql v (I6 0)) fun w=>ifB w (za (zg .eql (dsO (wX l 1)) g) fun x=>ifB x (za (zg .eql (dsO (wX m 1)) g) fun y=>ifB y (za (zg .eql (dsO (wX k 1)) g) fun z=>ifB z (b1 (O 17 [SA [atD e 0,atD e 1,atD e 2,atD e 3,a,b,c,d,f,h,j],SA [.nils,I6 0,.nils]]) fun A=>za (zg .eql A g) fun B=>some (S1 B)) (some (S1 (.bool false)))) (some (S1 (.bool false)))) (some (S1 (.bool false)))) (some (S1 (.bool false)))) (some (S1 (.bool false)))) (some (S1 (.bool false)))) (some (S1 (.bool false))))
def P4(O:Orc)(a b c d f h j m r s w y z aa _ab _ac _ad _ae af ag ah aj ak am an:DV):Option DA:=b1 (O 5 []) fun p=>za (zec p) fun q=>ifB q (b1 (O 5 []) fun t=>some (S1 t)) (b1 (O 8 [SA [a,b,c,d,f,h,j,m,r,s,w,y]]) fun v=>za (zec v) fun x=>ifB x (b1 (O 5 []) fun A=>some (S1 A)) (za (xl af) fun B=>za (zg .gtr B (I6 10)) fun C=>ifB C (b1 (O 5 []) fun E=>some (S1 E)) (bA 11 (O 10 [SA [a,b,c,d,f,h,j,m,r,s,w,y]]) fun g=>bA 4 (O 9 [SA [atD g 0,atD g 1,atD g 2,atD g 3],SA [z,aa]]) fun e=>b1 (O 11 [SA [atD e 0,atD e 1,atD e 2,atD e 3]]) fun k=>za (zg .eql k (I6 0)) fun F=>ifB F (b1 (O 12 [SA [atD e 0,atD e 1,atD e 2,atD e 3],SA [af,ag,ah]]) fun l=>za (zg .eql l (I6 0)) fun G=>ifB G (b1 (O 13 [SA [aj,ak,am,an]]) fun n=>b1 (O 14 [SA [atD e 0,atD e 1,atD e 2,atD e 3,af,ag,ah,aj,ak,am,an]]) fun H=>za (zg .neq H n) fun J=>ifB J (some (S1 (.bool false))) (zhY O n e af ag ah aj ak am an)) (b1 (O 14 [SA [atD e 0,atD e 1,atD e 2,atD e 3,af,ag,ah,aj,ak,am,an]]) fun K=>za (zg .neq K l) fun L=>ifB L (some (S1 (.bool false))) (zhY O l e af ag ah aj ak am an))) (za (zg .eql k (I6 0)) fun M=>ifB M (b1 (O 13 [SA [aj,ak,am,an]]) fun o=>b1 (O 14 [SA [atD e 0,atD e 1,atD e 2,atD e 3,af,ag,ah,aj,ak,am,an]]) fun N=>za (zg .neq N o) fun P=>ifB P (some (S1 (.bool false))) (zhY O o e af ag ah aj ak am an)) (b1 (O 14 [SA [atD e 0,atD e 1,atD e 2,atD e 3,af,ag,ah,aj,ak,am,an]]) fun Q=>za (zg .neq Q k) fun R=>ifB R (some (S1 (.bool false))) (zhY O k e af ag ah aj ak am an))))))
theorem p4(O:Orc)(a b c d f h j m r s w y z aa ab ac ad ae af ag ah aj ak am an:DV):pF O an0 4 [SA [a,b,c,d,f,h,j,m,r,s,w,y],SA [z,aa],SA [ab,ac,ad,ae,af,ag,ah,aj,ak,am,an]]=P4 O a b c d f h j m r s w y z aa ab ac ad ae af ag ah aj ak am an:=by kernel_rfl
def P7(O:Orc)(a b c d f h j m r s w:DV):Option DA:=b1 (O 14 [SA [a,b,c,d,f,h,j,m,r,s,w]]) fun k=>za (zg .neq k (I6 0)) fun n=>ifB n (some (.tup [.agg [.nils,I6 0,.nils],.one k])) (b1 (O 18 [SA [a,b,c,d]]) fun g=>za (xl g) fun o=>za (zg .gtr o (I6 12)) fun p=>ifB p (some (.tup [.agg [.nils,I6 0,.nils],.one (I6 4)])) (za (xl c) fun l=>za (mkN 16 l l) fun e=>bTs 0 (O 19 [S1 (.fp [a,b,c,d,f,h,j,m,r,s,w,g,.nils,I6 0,.nils,.nils,I6 0] 0),.s (.one (.lst 2 (List.replicate e [U64 0,U64 0]))),.s (.one (.lst 2 (List.replicate e [U64 0,U64 0])))]) fun _t=>b1s (O 20 [S1 (.fp [a,b,c,d,f,h,j,m,r,s,w,g,.nils,I6 0,.nils,.nils,I6 0] 0),.s (.one (.lst 2 (List.replicate e [U64 0,U64 0]))),.s (.one (.lst 2 (List.replicate e [U64 0,U64 0])))]) fun _v=>za (zg .neq (I6 0) (I6 0)) fun q=>ifB q (some (.tup [.agg [.nils,I6 0,.nils],.one (I6 0)])) (some (.tup [.agg [.nils,I6 0,.nils],.one (I6 0)]))))
theorem p7(O:Orc)(a b c d f h j m r s w:DV):pF O an0 7 [SA [a,b,c,d,f,h,j,m,r,s,w]]=P7 O a b c d f h j m r s w:=by kernel_rfl
def P8(O:Orc)(a b c _d _f _h _j _m _r _s _w _y:DV):Option DA:=b1 (O 21 [SA [a,b,c]]) fun d=>ifB d (za (xl b) fun e=>za (zg .leq e (I6 2)) fun f=>some (S1 f)) (some (S1 (.bool false)))
theorem p8(O:Orc)(a b c d f h j m r s w y:DV):pF O an0 8 [SA [a,b,c,d,f,h,j,m,r,s,w,y]]=P8 O a b c d f h j m r s w y:=by kernel_rfl
def an9:Nat->Option LA:=fun i=>match i with|0=>some ⟨[.cell 0 0],[(.cell 0 1,6),(.cell 0 2,5),(.cell 0 3,5)],[(0,4)],[],[.cell 0 0],[(.cell 0 1,6),(.cell 0 2,5),(.cell 0 3,5)],[.cell 0 0],[(.cell 0 1,6),(.cell 0 2,5),(.cell 0 3,5)],[]⟩|1=>some ⟨[.cell 0 0],[(.cell 0 1,6),(.cell 0 2,5),(.cell 0 3,5)],[(0,4)],[],[.cell 0 0],[(.cell 0 1,6),(.cell 0 2,5),(.cell 0 3,5)],[.cell 0 0],[(.cell 0 1,6),(.cell 0 2,5),(.cell 0 3,5)],[]⟩|2=>some ⟨[.cell 9 0,.cell 9 1,.cell 9 2,.cell 9 3],[(.cell 9 4,4)],[(9,5)],[],[.cell 9 0,.cell 9 1,.cell 9 2,.cell 9 3],[(.cell 9 4,4)],[.cell 9 0,.cell 9 1,.cell 9 2,.cell 9 3],[(.cell 9 4,4)],[]⟩|_=>none
def zgh(a:DV)(b:List DV)(c:List OC):Option PX:=za (zg .rem a (U8 2)) fun e=>za (zZ .i64 e) fun f=>za (zg .add (I6 60) f) fun g=>za (zg .lss (I6 (Int.ofNat (xu (zU c 0)))) g) fun h=>ifB h (za (yn (zU c 0) (I6 0)) fun j=>za (j5 (zU c 0) j) fun d=>za (zg .quo (I6 (Int.ofNat (xu (zU c 0)))) (I6 10)) fun k=>za (zg .add (I6 48) k) fun l=>za (zZ .u8 l) fun m=>za (zg .rem (I6 (Int.ofNat (xu (zU c 0)))) (I6 10)) fun n=>za (zg .add (I6 48) n) fun o=>za (zZ .u8 o) fun p=>za (zgw (.lst 1 [[m],[p]])) fun q=>za (zgv .add (.str ⟨#[89]⟩) q) fun r=>gd (fits 56 (xu (zU c 0)+1)) (some (.normal,[zy b 0,zy b 1,zy b 2,zy b 3],[some (zL (zU c 0)++[[r,atD d 1,atD d 2,atD d 3]])]))) (some (.exit 5,[zy b 0,zy b 1,zy b 2,zy b 3],[zU c 0]))
def znQ(a:DV)(c:List DV)(b:List OC):Option PX:=za (zg .rem a (U8 2)) fun d=>za (zZ .i64 d) fun e=>za (zg .add (I6 8) e) fun f=>za (zg .lss (I6 (Int.ofNat (xu (zU b 1)))) f) fun g=>ifB g (za (zg .add (I6 48) (I6 (Int.ofNat (xu (zU b 1))))) fun h=>za (zZ .u8 h) fun j=>za (zgw (.lst 1 [[j]])) fun k=>za (zgv .add (.str ⟨#[69]⟩) k) fun l=>gd (fits 64 (xu (zU b 1)+1)) (some (.normal,[zy c 0],[zU b 0,some (zL (zU b 1)++[[l,.bool false,I6 0,I6 0,.nils]]),zU b 2]))) (some (.exit 3,[zy c 0],[zU b 0,zU b 1,zU b 2]))
def znR(a:DV)(d:List DV)(b:List OC):Option PX:=za (zg .rem a (U8 2)) fun e=>za (zZ .i64 e) fun f=>za (zg .add (I6 60) f) fun g=>za (zg .lss (I6 (Int.ofNat (xu (zU b 0)))) g) fun h=>ifB h (za (yn (zU b 0) (I6 0)) fun j=>za (j5 (zU b 0) j) fun c=>za (zg .quo (I6 (Int.ofNat (xu (zU b 0)))) (I6 10)) fun k=>za (zg .add (I6 48) k) fun l=>za (zZ .u8 l) fun m=>za (zg .rem (I6 (Int.ofNat (xu (zU b 0)))) (I6 10)) fun n=>za (zg .add (I6 48) n) fun o=>za (zZ .u8 o) fun p=>za (zgw (.lst 1 [[m],[p]])) fun q=>za (zgv .add (.str ⟨#[88]⟩) q) fun r=>gd (fits 80 (xu (zU b 0)+1)) (some (.normal,[zy d 0],[some (zL (zU b 0)++[[r,atD c 1,atD c 2,atD c 3,atD c 4,atD c 5]]),zU b 1,zU b 2]))) (some (.exit 1,[zy d 0],[zU b 0,zU b 1,zU b 2]))
def P9(_O:Orc)(a b c d f h:DV):Option DA:=za (vR 6 b) fun k=>gd (fits 80 (xu (some [])+(k:List (List DV)).length)) (za (vR 5 c) fun g=>gd (fits 64 (xu (some [])+(g:List (List DV)).length)) (za (vR 5 d) fun l=>gd (fits 48 (xu (some [])+(l:List (List DV)).length)) (za (zZ .i64 h) fun J=>za (zg .rem J (I6 (Int.ofNat (xu (zT (some []) k))))) fun v=>za (zZ .i64 h) fun K=>za (zg .rem K (I6 (Int.ofNat (xu (zT (some []) g))))) fun j=>za (yn (zT (some []) g) j) fun L=>za (j5 (zT (some []) g) L) fun e=>za (vR 4 (atD e 4)) fun m=>gd (fits 56 (xu (some [])+(m:List (List DV)).length)) (za (zg .rem f (U8 16)) fun p=>za (zg .eql p (U8 1)) fun M=>ifB M (za (zg .rem h (U8 4)) fun N=>za (yn (some [[.str ⟨#[]⟩],[.str ⟨#[55]⟩],[.str ⟨#[97,32,98]⟩],[.str ⟨#[70,105,110,101]⟩]]) N) fun P=>za (j5 (some [[.str ⟨#[]⟩],[.str ⟨#[55]⟩],[.str ⟨#[97,32,98]⟩],[.str ⟨#[70,105,110,101]⟩]]) P) fun y=>za (zg .lss j (I6 (Int.ofNat (xu (zT (some []) g))))) fun Q=>ifB Q (za (yn (zT (some []) g) j) fun R=>za (uV 5 (zT (some []) g) R 0 [atD e 0,atD e 1,atD e 2,atD e 3,mkL 4 (zT (some []) m)]) fun S=>some (SA [atD y 0,mkL 6 (zT (some []) k),mkL 5 S,mkL 5 (zT (some []) l)])) (some (SA [atD y 0,mkL 6 (zT (some []) k),mkL 5 (zT (some []) g),mkL 5 (zT (some []) l)]))) (za (zg .eql p (U8 2)) fun T=>ifB T (za (yn (zT (some []) k) v) fun U=>za (uV 6 (zT (some []) k) U 5 [.nils]) fun z=>za (zg .lss j (I6 (Int.ofNat (xu (zT (some []) g))))) fun V=>ifB V (za (yn (zT (some []) g) j) fun W=>za (uV 5 (zT (some []) g) W 0 [atD e 0,atD e 1,atD e 2,atD e 3,mkL 4 (zT (some []) m)]) fun X=>some (SA [a,mkL 6 z,mkL 5 X,mkL 5 (zT (some []) l)])) (some (SA [a,mkL 6 z,mkL 5 (zT (some []) g),mkL 5 (zT (some []) l)]))) (za (zg .eql p (U8 3)) fun Y=>ifB Y (za (zg .rem h (U8 3)) fun Z=>za (yn (some [[.str ⟨#[]⟩],[.str ⟨#[82,48]⟩],[.str ⟨#[82,57]⟩]]) Z) fun aa=>za (j5 (some [[.str ⟨#[]⟩],[.str ⟨#[82,48]⟩],[.str ⟨#[82,57]⟩]]) aa) fun ab=>za (yn (zT (some []) k) v) fun ac=>za (uV 6 (zT (some []) k) ac 0 [atD ab 0]) fun A=>za (zg .lss j (I6 (Int.ofNat (xu (zT (some []) g))))) fun ad=>ifB ad (za (yn (zT (some []) g) j) fun ae=>za (uV 5 (zT (some []) g) ae 0 [atD e 0,atD e 1,atD e 2,atD e 3,mkL 4 (zT (some []) m)]) fun af=>some (SA [a,mkL 6 A,mkL 5 af,mkL 5 (zT (some []) l)])) (some (SA [a,mkL 6 A,mkL 5 (zT (some []) g),mkL 5 (zT (some []) l)]))) (za (zg .eql p (U8 4)) fun ag=>ifB ag (xa (z6 (znR h) [a] [zT (some []) k,zT (some []) g,zT (some []) l]) (fun B r n=>bif Nat.beq B 1 then (za (zg .lss j (I6 (Int.ofNat (xu (zU n 1))))) fun ah=>ifB ah (za (yn (zU n 1) j) fun aj=>za (uV 5 (zU n 1) aj 0 [atD e 0,atD e 1,atD e 2,atD e 3,mkL 4 (zT (some []) m)]) fun ak=>some (SA [zy r 0,mkL 6 (zU n 0),mkL 5 ak,mkL 5 (zU n 2)])) (some (SA [zy r 0,mkL 6 (zU n 0),mkL 5 (zU n 1),mkL 5 (zU n 2)]))) else(bif Nat.beq B 0 then (za (zg .lss j (I6 (Int.ofNat (xu (zU n 1))))) fun al=>ifB al (za (yn (zU n 1) j) fun am=>za (uV 5 (zU n 1) am 0 [atD e 0,atD e 1,atD e 2,atD e 3,mkL 4 (zT (some []) m)]) fun an=>some (SA [zy r 0,mkL 6 (zU n 0),mkL 5 an,mkL 5 (zU n 2)])) (some (SA [zy r 0,mkL 6 (zU n 0),mkL 5 (zU n 1),mkL 5 (zU n 2)]))) else(none))) (fun _r _n=>none)) (za (zg .eql p (U8 5)) fun ao=>ifB ao (za (xl .nils) fun ap=>za (zg .lss j ap) fun aq=>ifB aq (za (uh 5 .nils j) fun _bM=>none) (some (SA [a,mkL 6 (zT (some []) k),.nils,mkL 5 (zT (some []) l)]))) (za (zg .eql p (U8 6)) fun ar=>ifB ar (xa (z6 (znQ h) [a] [zT (some []) k,zT (some []) g,zT (some []) l]) (fun C s o=>bif Nat.beq C 3 then (za (zg .lss j (I6 (Int.ofNat (xu (zU o 1))))) fun au=>ifB au (za (yn (zU o 1) j) fun av=>za (uV 5 (zU o 1) av 0 [atD e 0,atD e 1,atD e 2,atD e 3,mkL 4 (zT (some []) m)]) fun aw=>some (SA [zy s 0,mkL 6 (zU o 0),mkL 5 aw,mkL 5 (zU o 2)])) (some (SA [zy s 0,mkL 6 (zU o 0),mkL 5 (zU o 1),mkL 5 (zU o 2)]))) else(bif Nat.beq C 0 then (za (zg .lss j (I6 (Int.ofNat (xu (zU o 1))))) fun ax=>ifB ax (za (yn (zU o 1) j) fun ay=>za (uV 5 (zU o 1) ay 0 [atD e 0,atD e 1,atD e 2,atD e 3,mkL 4 (zT (some []) m)]) fun aA=>some (SA [zy s 0,mkL 6 (zU o 0),mkL 5 aA,mkL 5 (zU o 2)])) (some (SA [zy s 0,mkL 6 (zU o 0),mkL 5 (zU o 1),mkL 5 (zU o 2)]))) else(none))) (fun _s _o=>none)) (za (zg .eql p (U8 7)) fun aB=>ifB aB (za (zg .rem h (U8 4)) fun aC=>za (yn (some [[.str ⟨#[]⟩],[.str ⟨#[68,48]⟩],[.str ⟨#[68,49]⟩],[.str ⟨#[83,111,108,111]⟩]]) aC) fun aE=>za (j5 (some [[.str ⟨#[]⟩],[.str ⟨#[68,48]⟩],[.str ⟨#[68,49]⟩],[.str ⟨#[83,111,108,111]⟩]]) aE) fun aF=>za (zg .lss j (I6 (Int.ofNat (xu (zT (some []) g))))) fun aG=>ifB aG (za (yn (zT (some []) g) j) fun aH=>za (uV 5 (zT (some []) g) aH 0 [atD aF 0,atD e 1,atD e 2,atD e 3,mkL 4 (zT (some []) m)]) fun aJ=>some (SA [a,mkL 6 (zT (some []) k),mkL 5 aJ,mkL 5 (zT (some []) l)])) (some (SA [a,mkL 6 (zT (some []) k),mkL 5 (zT (some []) g),mkL 5 (zT (some []) l)]))) (za (zg .eql p (U8 8)) fun aK=>ifB aK (za (zg .rem h (U8 4)) fun aL=>za (yn (some [[I6 (-1),I6 40],[I6 50,I6 40],[I6 0,I6 128],[I6 0,I6 127]]) aL) fun aM=>za (j5 (some [[I6 (-1),I6 40],[I6 50,I6 40],[I6 0,I6 128],[I6 0,I6 127]]) aM) fun E=>za (zg .lss j (I6 (Int.ofNat (xu (zT (some []) g))))) fun aN=>ifB aN (za (yn (zT (some []) g) j) fun aP=>za (uV 5 (zT (some []) g) aP 0 [atD e 0,atD e 1,atD E 0,atD E 1,mkL 4 (zT (some []) m)]) fun aQ=>some (SA [a,mkL 6 (zT (some []) k),mkL 5 aQ,mkL 5 (zT (some []) l)])) (some (SA [a,mkL 6 (zT (some []) k),mkL 5 (zT (some []) g),mkL 5 (zT (some []) l)]))) (za (zg .eql p (U8 9)) fun aR=>ifB aR (za (zg .gtr (I6 (Int.ofNat (xu (zT (some []) m)))) (I6 0)) fun aS=>ifB aS (za (yn (zT (some []) m) (I6 0)) fun aT=>za (j5 (zT (some []) m) aT) fun w=>za (zg .rem h (U8 4)) fun aU=>za (yn (some [[.str ⟨#[]⟩],[.str ⟨#[83,49]⟩],[.str ⟨#[84]⟩],[.str ⟨#[83,50]⟩]]) aU) fun aV=>za (j5 (some [[.str ⟨#[]⟩],[.str ⟨#[83,49]⟩],[.str ⟨#[84]⟩],[.str ⟨#[83,50]⟩]]) aV) fun aW=>za (yn (zT (some []) m) (I6 0)) fun aX=>za (uV 4 (zT (some []) m) aX 0 [atD aW 0,atD w 1,atD w 2,atD w 3]) fun aY=>za (zg .lss j (I6 (Int.ofNat (xu (zT (some []) g))))) fun aZ=>ifB aZ (za (yn (zT (some []) g) j) fun ba=>za (uV 5 (zT (some []) g) ba 0 [atD e 0,atD e 1,atD e 2,atD e 3,mkL 4 aY]) fun bb=>some (SA [a,mkL 6 (zT (some []) k),mkL 5 bb,mkL 5 (zT (some []) l)])) (some (SA [a,mkL 6 (zT (some []) k),mkL 5 (zT (some []) g),mkL 5 (zT (some []) l)]))) (za (zg .lss j (I6 (Int.ofNat (xu (zT (some []) g))))) fun bc=>ifB bc (za (yn (zT (some []) g) j) fun bd=>za (uV 5 (zT (some []) g) bd 0 [atD e 0,atD e 1,atD e 2,atD e 3,mkL 4 (zT (some []) m)]) fun be=>some (SA [a,mkL 6 (zT (some []) k),mkL 5 be,mkL 5 (zT (some []) l)])) (some (SA [a,mkL 6 (zT (some []) k),mkL 5 (zT (some []) g),mkL 5 (zT (some []) l)])))) (za (zg .eql p (U8 10)) fun bf=>ifB bf (za (zg .gtr (I6 (Int.ofNat (xu (zT (some []) m)))) (I6 0)) fun bg=>ifB bg (xa (z6 (zgh h) [atD e 0,atD e 1,atD e 2,atD e 3] [zT (some []) m]) (fun F q x=>bif Nat.beq F 5 then (za (zg .lss j (I6 (Int.ofNat (xu (zT (some []) g))))) fun bh=>ifB bh (za (yn (zT (some []) g) j) fun bj=>za (uV 5 (zT (some []) g) bj 0 [zy q 0,zy q 1,zy q 2,zy q 3,mkL 4 (zU x 0)]) fun bk=>some (SA [a,mkL 6 (zT (some []) k),mkL 5 bk,mkL 5 (zT (some []) l)])) (some (SA [a,mkL 6 (zT (some []) k),mkL 5 (zT (some []) g),mkL 5 (zT (some []) l)]))) else(bif Nat.beq F 0 then (za (zg .lss j (I6 (Int.ofNat (xu (zT (some []) g))))) fun bl=>ifB bl (za (yn (zT (some []) g) j) fun bm=>za (uV 5 (zT (some []) g) bm 0 [zy q 0,zy q 1,zy q 2,zy q 3,mkL 4 (zU x 0)]) fun bn=>some (SA [a,mkL 6 (zT (some []) k),mkL 5 bn,mkL 5 (zT (some []) l)])) (some (SA [a,mkL 6 (zT (some []) k),mkL 5 (zT (some []) g),mkL 5 (zT (some []) l)]))) else(none))) (fun _q _x=>none)) (za (zg .lss j (I6 (Int.ofNat (xu (zT (some []) g))))) fun bo=>ifB bo (za (yn (zT (some []) g) j) fun bp=>za (uV 5 (zT (some []) g) bp 0 [atD e 0,atD e 1,atD e 2,atD e 3,mkL 4 (zT (some []) m)]) fun bq=>some (SA [a,mkL 6 (zT (some []) k),mkL 5 bq,mkL 5 (zT (some []) l)])) (some (SA [a,mkL 6 (zT (some []) k),mkL 5 (zT (some []) g),mkL 5 (zT (some []) l)])))) (za (zg .eql p (U8 11)) fun br=>ifB br (za (vwB none (some v) (xu (zT (some []) k))) fun t=>za (zg .lss j (I6 (Int.ofNat (xu (zT (some []) g))))) fun bs=>ifB bs (za (yn (zT (some []) g) j) fun bt=>za (uV 5 (zT (some []) g) bt 0 [atD e 0,atD e 1,atD e 2,atD e 3,mkL 4 (zT (some []) m)]) fun bu=>some (SA [a,zgW 6 t.1 t.2 (mkL 6 (zT (some []) k)),mkL 5 bu,mkL 5 (zT (some []) l)])) (some (SA [a,zgW 6 t.1 t.2 (mkL 6 (zT (some []) k)),mkL 5 (zT (some []) g),mkL 5 (zT (some []) l)]))) (za (zg .eql p (U8 12)) fun bv=>ifB bv (za (zg .rem h (U8 5)) fun bw=>za (zZ .i64 bw) fun G=>gd (fits 48 (xu (zT (some []) l)+1)) (za (zg .lss j (I6 (Int.ofNat (xu (zT (some []) g))))) fun bx=>ifB bx (za (yn (zT (some []) g) j) fun bz=>za (uV 5 (zT (some []) g) bz 0 [atD e 0,atD e 1,atD e 2,atD e 3,mkL 4 (zT (some []) m)]) fun bA=>some (SA [a,mkL 6 (zT (some []) k),mkL 5 bA,.lst 5 (zL (zT (some []) l)++[[.str ⟨#[67,57]⟩,G,I6 0,I6 1,.bool false]])])) (some (SA [a,mkL 6 (zT (some []) k),mkL 5 (zT (some []) g),.lst 5 (zL (zT (some []) l)++[[.str ⟨#[67,57]⟩,G,I6 0,I6 1,.bool false]])])))) (za (zg .eql p (U8 13)) fun bB=>ifB bB (za (zg .rem h (U8 3)) fun bC=>za (yn (some [[.str ⟨#[]⟩],[.str ⟨#[67,48]⟩],[.str ⟨#[68,48]⟩]]) bC) fun bE=>za (j5 (some [[.str ⟨#[]⟩],[.str ⟨#[67,48]⟩],[.str ⟨#[68,48]⟩]]) bE) fun H=>gd (fits 48 (xu (zT (some []) l)+1)) (za (zg .lss j (I6 (Int.ofNat (xu (zT (some []) g))))) fun bF=>ifB bF (za (yn (zT (some []) g) j) fun bG=>za (uV 5 (zT (some []) g) bG 0 [atD e 0,atD e 1,atD e 2,atD e 3,mkL 4 (zT (some []) m)]) fun bH=>some (SA [a,mkL 6 (zT (some []) k),mkL 5 bH,.lst 5 (zL (zT (some []) l)++[[atD H 0,I6 0,I6 0,I6 1,.bool false]])])) (some (SA [a,mkL 6 (zT (some []) k),mkL 5 (zT (some []) g),.lst 5 (zL (zT (some []) l)++[[atD H 0,I6 0,I6 0,I6 1,.bool false]])])))) (za (zg .lss j (I6 (Int.ofNat (xu (zT (some []) g))))) fun bJ=>ifB bJ (za (yn (zT (some []) g) j) fun bK=>za (uV 5 (zT (some []) g) bK 0 [atD e 0,atD e 1,atD e 2,atD e 3,mkL 4 (zT (some []) m)]) fun bL=>some (SA [a,mkL 6 (zT (some []) k),mkL 5 bL,mkL 5 (zT (some []) l)])) (some (SA [a,mkL 6 (zT (some []) k),mkL 5 (zT (some []) g),mkL 5 (zT (some []) l)])))))))))))))))))))
theorem p9(O:Orc)(a b c d f h:DV):pF O an9 9 [SA [a,b,c,d],SA [f,h]]=P9 O a b c d f h:=by kernel_rfl
def zyV:Nat->Option LA:=fun i=>match i with|0=>some ⟨[.slot 4],[],[],[(4,4)],[],[],[],[],[]⟩|_=>none
def zn2(b:List DV)(a:List OC):Option PX:=za (zg .lss (zy b 0) (I6 (Int.ofNat (xu (zU a 0))))) fun c=>ifB c (za (yn (zU a 0) (zy b 0)) fun d=>za (j5 (zU a 0) d) fun e=>za (zg .rem (atD e 1) (U8 4)) fun f=>za (yn (zU a 0) (zy b 0)) fun g=>za (uV 4 (zU a 0) g 1 [f]) fun h=>za (zg .add (zy b 0) (I6 1)) fun j=>some (.normal,[j],[h])) (some (.exit 0,[],[zU a 0]))
def P10(O:Orc)(a b c d f h j m r s w y:DV):Option DA:=za (vR 4 b) fun k=>gd (fits 32 (xu (some [])+(k:List (List DV)).length)) (xa (z6 zn2 [I6 0] [zT (some []) k]) (fun n _o l=>bif Nat.beq n 0 then (bA 4 (O 22 [SA [a,mkL 4 (zU l 0),c]]) fun e=>bA 3 (O 23 [SA [atD e 0,atD e 1,atD e 2,atD e 3],SA [d,f,h,j,m]]) fun g=>za (zg .rem (atD [r,s,w,y] 0) (U8 4)) fun p=>za (zZ .i64 p) fun q=>za (zg .rem (atD [r,s,w,y] 1) (U8 6)) fun t=>za (zZ .i64 t) fun v=>za (zg .rem (atD [r,s,w,y] 2) (U8 3)) fun x=>za (zZ .i64 x) fun z=>za (zg .rem (atD [r,s,w,y] 3) (U8 6)) fun A=>za (zZ .i64 A) fun B=>some (SA [atD e 0,atD e 1,atD e 2,atD e 3,atD g 0,atD g 1,atD g 2,q,v,z,B])) else(none)) (fun _o _l=>none))
theorem p10(O:Orc)(a b c d f h j m r s w y:DV):pF O zyV 10 [SA [a,b,c,d,f,h,j,m,r,s,w,y]]=P10 O a b c d f h j m r s w y:=by kernel_rfl
def zyU:Nat->Option LA:=fun i=>match i with|0=>some ⟨[.slot 27],[],[],[(1,1048576)],[],[],[.slot 2],[],[]⟩|1=>some ⟨[.slot 58],[(.slot 8,2)],[],[(2,1048576)],[],[(.slot 8,2)],[.slot 2],[],[]⟩|_=>none
def zgs(O:Orc)(l a b c d:DV)(g:List DV)(f:List OC):Option PX:=za (zg .lss (zy g 0) l) fun m=>ifB m (za (uh 5 a (zy g 0)) fun e=>b1 (O 24 [S1 (atD e 0)]) fun n=>za (zec n) fun o=>ifB o (some (.ret,[I6 8],[some (zL (zU f 1))])) (za (zgz (.inl 2) (.one (atD e 0)) (.one (atD e 0))) fun _x=>za (zeI (.inl 2) 1048576 (.one (atD e 0)) (zL (zU f 1))) fun p=>ifB (dsO (lkD (.one (.bool false)) p)) (za (zg .neq (I6 9) (I6 0)) fun q=>ifB q (some (.ret,[I6 9],[some (zL (zU f 1))])) (b1 (O 27 [SA [b,c,a,d],SA [atD e 0,atD e 1,atD e 2,atD e 3,atD e 4]]) fun j=>za (zg .neq j (I6 0)) fun r=>ifB r (some (.ret,[j],[some (zL (zU f 1))])) (gd (fits 16 (xu (zU f 0)+1)) (za (zg .add (zy g 0) (I6 1)) fun s=>some (.normal,[s],[some (zL (zU f 0)++[[atD e 2,atD e 3]]),some (zL (zU f 1))]))))) (za (zgz (.inl 2) (.one (atD e 0)) (.one (atD e 0))) fun _y=>za (zn7 (.inl 2) 1048576 (.one (atD e 0)) [atD e 0,.bool true] (zL (zU f 1))) fun h=>za (zg .neq (I6 0) (I6 0)) fun t=>ifB t (some (.ret,[I6 0],[some h])) (b1 (O 27 [SA [b,c,a,d],SA [atD e 0,atD e 1,atD e 2,atD e 3,atD e 4]]) fun k=>za (zg .neq k (I6 0)) fun v=>ifB v (some (.ret,[k],[some h])) (gd (fits 16 (xu (zU f 0)+1)) (za (zg .add (zy g 0) (I6 1)) fun w=>some (.normal,[w],[some (zL (zU f 0)++[[atD e 2,atD e 3]]),some h]))))))) (some (.exit 4,[],[zU f 0,some (zL (zU f 1))]))
def zn1(O:Orc)(g a:DV)(d:List DV)(c:List OC):Option PX:=za (zg .lss (zy d 0) g) fun h=>ifB h (za (uh 6 a (zy d 0)) fun b=>b1 (O 25 [SA [atD b 0,atD b 1,atD b 2,atD b 3,atD b 4,atD b 5]]) fun e=>za (zg .neq e (I6 0)) fun j=>ifB j (some (.ret,[e],[some (zL (zU c 0))])) (za (zgz (.inl 2) (.one (atD b 0)) (.one (atD b 0))) fun _p=>za (zeI (.inl 2) 1048576 (.one (atD b 0)) (zL (zU c 0))) fun k=>ifB (dsO (lkD (.one (.bool false)) k)) (za (zg .neq (I6 9) (I6 0)) fun l=>ifB l (some (.ret,[I6 9],[some (zL (zU c 0))])) (za (zg .add (zy d 0) (I6 1)) fun m=>some (.normal,[m],[some (zL (zU c 0))]))) (za (zgz (.inl 2) (.one (atD b 0)) (.one (atD b 0))) fun _q=>za (zn7 (.inl 2) 1048576 (.one (atD b 0)) [atD b 0,.bool true] (zL (zU c 0))) fun f=>za (zg .neq (I6 0) (I6 0)) fun n=>ifB n (some (.ret,[I6 0],[some f])) (za (zg .add (zy d 0) (I6 1)) fun o=>some (.normal,[o],[some f]))))) (some (.exit 1,[],[some (zL (zU c 0))]))
def P11(O:Orc)(a b c d:DV):Option DA:=b1 (O 24 [S1 a]) fun h=>za (zec h) fun j=>ifB j (some (S1 (I6 8))) (za (xl b) fun k=>za (zg .gtr k (I6 60)) fun l=>ifB l (some (S1 (I6 4))) (za (xl b) fun m=>xa (z6 (zn1 O m b) [I6 0] [some []]) (fun n _e _o=>bif Nat.beq n 1 then (za (xl c) fun p=>za (zg .eql p (I6 0)) fun q=>ifB q (some (S1 (I6 13))) (za (xl c) fun r=>za (zg .gtr r (I6 8)) fun s=>ifB s (some (S1 (I6 4))) (za (xl c) fun t=>xa (z6 (zgs O t c a b d) [I6 0] [none,some []]) (fun v _f g=>bif Nat.beq v 4 then (b1s (O 28 [S1 (mkL 2 (zU g 0)),S1 d]) fun w=>some (S1 w)) else(none)) (fun f _g=>some (S1 (zy f 0)))))) else(none)) (fun e _o=>some (S1 (zy e 0)))))
theorem p11(O:Orc)(a b c d:DV):pF O zyU 11 [SA [a,b,c,d]]=P11 O a b c d:=by kernel_rfl
def zyT:Nat->Option LA:=fun i=>match i with|0=>some ⟨[.slot 23],[],[],[],[],[],[.slot 4],[],[]⟩|_=>none
def zn0(d a b:DV)(c:List DV)(_m:List OC):Option PX:=za (zg .lss (zy c 0) d) fun e=>ifB e (za (uh 5 a (zy c 0)) fun f=>za (uh 1 b (zy c 0)) fun g=>za (xl (atD f 4)) fun h=>za (vQ false (atD g 0) h) fun j=>za (zg .neq j (U64 0)) fun k=>ifB k (some (.ret,[I6 3],[])) (za (zg .add (zy c 0) (I6 1)) fun l=>some (.normal,[l],[]))) (some (.exit 0,[],[]))
def P12(O:Orc)(a b c d f h j:DV):Option DA:=b1 (O 11 [SA [a,b,c,d]]) fun e=>za (zg .neq e (I6 0)) fun k=>ifB k (some (S1 e)) (za (xl f) fun l=>za (xl c) fun m=>za (zg .neq l m) fun n=>ifB n (some (S1 (I6 5))) (za (xl c) fun o=>xa (z6 (zn0 o c f) [I6 0] []) (fun p _g _q=>bif Nat.beq p 0 then (za (xl d) fun r=>za (vQ false h r) fun s=>za (zg .neq s (U64 0)) fun t=>ifB t (some (S1 (I6 3))) (za (xl c) fun v=>za (vQ false j v) fun w=>za (zg .neq w (U64 0)) fun x=>ifB x (some (S1 (I6 3))) (some (S1 (I6 0))))) else(none)) (fun g _q=>some (S1 (zy g 0)))))
theorem p12(O:Orc)(a b c d f h j:DV):pF O zyT 12 [SA [a,b,c,d],SA [f,h,j]]=P12 O a b c d f h j:=by kernel_rfl
def zyS:Nat->Option LA:=fun i=>match i with|0=>some ⟨[.slot 12],[],[],[],[],[],[.slot 2],[],[]⟩|1=>some ⟨[.slot 27],[],[],[],[],[],[.slot 2],[],[]⟩|_=>none
def zgr(a b:DV)(c:List DV)(_j:List OC):Option PX:=za (zg .lss (zy c 0) (I6 2)) fun e=>ifB e (za (j4 2 (zy c 0)) fun d=>za (zg .lss (atD [a,b] d) (I6 0)) fun f=>ifB f (some (.ret,[I6 3],[])) (za (zg .gtr (atD [a,b] d) (I6 127)) fun g=>ifB g (some (.ret,[I6 3],[])) (za (zg .add (zy c 0) (I6 1)) fun h=>some (.normal,[h],[])))) (some (.exit 2,[],[]))
def zp3(a b:DV)(c:List DV)(_j:List OC):Option PX:=za (zg .lss (zy c 0) (I6 2)) fun e=>ifB e (za (j4 2 (zy c 0)) fun d=>za (zg .lss (atD [a,b] d) (I6 0)) fun f=>ifB f (some (.ret,[I6 3],[])) (za (zg .gtr (atD [a,b] d) (I6 10)) fun g=>ifB g (some (.ret,[I6 3],[])) (za (zg .add (zy c 0) (I6 1)) fun h=>some (.normal,[h],[])))) (some (.exit 0,[],[]))
def P13(_O:Orc)(a b c d:DV):Option DA:=xa (z6 (zp3 a c) [I6 0] []) (fun g _e _h=>bif Nat.beq g 0 then (xa (z6 (zgr b d) [I6 0] []) (fun j _f _k=>bif Nat.beq j 2 then (some (S1 (I6 0))) else(none)) (fun f _k=>some (S1 (zy f 0)))) else(none)) (fun e _h=>some (S1 (zy e 0)))
theorem p13(O:Orc)(a b c d:DV):pF O zyS 13 [SA [a,b,c,d]]=P13 O a b c d:=by kernel_rfl
def P14(O:Orc)(a b c d f h j m r s w:DV):Option DA:=b1 (O 11 [SA [a,b,c,d]]) fun e=>za (zg .neq e (I6 0)) fun k=>ifB k (some (S1 e)) (b1 (O 12 [SA [a,b,c,d],SA [f,h,j]]) fun g=>za (zg .neq g (I6 0)) fun l=>ifB l (some (S1 g)) (b1 (O 13 [SA [m,r,s,w]]) fun n=>some (S1 n)))
theorem p14(O:Orc)(a b c d f h j m r s w:DV):pF O an0 14 [SA [a,b,c,d,f,h,j,m,r,s,w]]=P14 O a b c d f h j m r s w:=by kernel_rfl
def P15(O:Orc)(a b c d f h j m r s w e:DV):Option DA:=b1s (O 29 [SA [a,b,c,d,f,h,j,m,r,s,w],S1 (.lst 1 [[e]])]) fun g=>za (zg .neq g (I6 0)) fun l=>ifB l (some (.tup [.one (.bool false),.one g])) (bT [none,none] (O 30 [SA [m,r,s,w],S1 c,S1 e]) fun k=>some (.tup [.one (dsO (wX k 0)),.one (dsO (wX k 1))]))
theorem p15(O:Orc)(a b c d f h j m r s w a1:DV):pF O an0 15 [SA [a,b,c,d,f,h,j,m,r,s,w],S1 a1]=P15 O a b c d f h j m r s w a1:=by kernel_rfl
def zyR:Nat->Option LA:=fun i=>match i with|0=>some ⟨[.slot 24],[],[],[],[],[],[.slot 6,.slot 7],[],[]⟩|_=>none
def zx1(O:Orc)(e f g:DV)(a:List DV)(_l:List OC):Option PX:=za (zg .lss (zy a 0) e) fun h=>ifB h (za (uh 2 f (zy a 0)) fun b=>za (uh 2 g (zy a 0)) fun c=>bA 2 (O 31 [SA [atD b 0,atD b 1],SA [atD c 0,atD c 1]]) fun d=>za (zn9 [1,1] [atD d 0,atD d 1] [U64 0,U64 0]) fun j=>ifB (.bool (!j)) (some (.ret,[I6 0,I6 14],[])) (za (zg .add (zy a 0) (I6 1)) fun k=>some (.normal,[k],[]))) (some (.exit 0,[],[]))
def P16(O:Orc)(a b c d f h j m r s w e g:DV):Option DA:=b1s (O 29 [SA [a,b,c,d,f,h,j,m,r,s,w],S1 (.lst 1 [[e],[g]])]) fun n=>za (zg .neq n (I6 0)) fun p=>ifB p (some (.tup [.one (I6 0),.one n])) (za (xl e) fun q=>xa (z6 (zx1 O q e g) [I6 0] []) (fun t _k _v=>bif Nat.beq t 0 then (bT [none,none] (O 30 [SA [m,r,s,w],S1 c,S1 e]) fun l=>za (zg .neq (dsO (wX l 1)) (I6 0)) fun x=>ifB x (some (.tup [.one (I6 0),.one (dsO (wX l 1))])) (za (zec (dsO (wX l 0))) fun y=>ifB y (some (.tup [.one (I6 0),.one (I6 24)])) (bT [none,none,none] (O 32 [SA [a,b,c,d,f,h,j,m,r,s,w],S1 e,S1 g]) fun o=>some (.tup [.one (dsO (wX o 0)),.one (dsO (wX o 2))])))) else(none)) (fun k _v=>some (.tup [.one (zy k 0),.one (zy k 1)])))
theorem p16(O:Orc)(a b c d f h j m r s w a1 a2:DV):pF O zyR 16 [SA [a,b,c,d,f,h,j,m,r,s,w],S1 a1,S1 a2]=P16 O a b c d f h j m r s w a1 a2:=by kernel_rfl
def P17(O:Orc)(a b c d f h j m r s w y z aa:DV):Option DA:=bT [none,none] (O 15 [SA [a,b,c,d,f,h,j,m,r,s,w],S1 y]) fun e=>za (zg .neq (dsO (wX e 1)) (I6 0)) fun n=>ifB n (some (S1 (dsO (wX e 1)))) (za (zec (dsO (wX e 0))) fun o=>ifB o (some (S1 (I6 24))) (bT [none,none] (O 33 [SA [a,b,c,d],SA [f,h,j],S1 y]) fun g=>za (zg .neq (dsO (wX g 1)) (I6 0)) fun p=>ifB p (some (S1 (dsO (wX g 1)))) (za (zg .neq (dsO (wX g 0)) z) fun q=>ifB q (some (S1 (I6 20))) (za (xl aa) fun t=>za (zg .eql t (I6 0)) fun v=>ifB v (some (S1 (I6 13))) (b1 (O 18 [SA [a,b,c,d]]) fun x=>za (xl x) fun A=>b1 (O 34 [S1 aa,S1 A]) fun k=>za (zg .neq k (I6 0)) fun B=>ifB B (some (S1 k)) (za (xl c) fun l=>za (mkN 16 l l) fun _C=>none))))))
theorem p17(O:Orc)(a b c d f h j m r s w y z aa:DV):pF O an0 17 [SA [a,b,c,d,f,h,j,m,r,s,w],SA [y,z,aa]]=P17 O a b c d f h j m r s w y z aa:=by kernel_rfl
def zyQ:Nat->Option LA:=fun i=>match i with|0=>some ⟨[.slot 3],[],[],[],[],[],[.slot 2],[],[]⟩|_=>none
def zgq(a:DV)(b:List DV)(_j:List OC):Option PX:=za (xl a) fun c=>za (zg .lss (zy b 0) c) fun d=>ifB d (za (uh 4 a (zy b 0)) fun e=>za (xl (atD e 3)) fun f=>za (zg .gtr f (I6 3)) fun g=>ifB g (some (.ret,[.bool false],[])) (za (zg .add (zy b 0) (I6 1)) fun h=>some (.normal,[h],[]))) (some (.exit 0,[],[]))
def P21(_O:Orc)(a b c:DV):Option DA:=za (xl a) fun e=>za (zg .lss e (I6 1)) fun f=>ifB f (some (S1 (.bool false))) (za (xl a) fun g=>za (zg .gtr g (I6 3)) fun h=>ifB h (some (S1 (.bool false))) (za (xl b) fun j=>za (zg .lss j (I6 1)) fun k=>ifB k (some (S1 (.bool false))) (za (xl b) fun l=>za (zg .gtr l (I6 3)) fun m=>ifB m (some (S1 (.bool false))) (za (xl c) fun n=>za (zg .gtr n (I6 3)) fun o=>ifB o (some (S1 (.bool false))) (xa (z6 (zgq b) [I6 0] []) (fun p _d _q=>bif Nat.beq p 0 then (some (S1 (.bool true))) else(none)) (fun d _q=>some (S1 (zy d 0))))))))
theorem p21(O:Orc)(a b c:DV):pF O zyQ 21 [SA [a,b,c]]=P21 O a b c:=by kernel_rfl
def zyP:Nat->Option LA:=fun i=>match i with|0=>some ⟨[.slot 4,.cell 2 0],[(.cell 2 1,6),(.cell 2 2,5),(.cell 2 3,5)],[(2,4)],[],[.cell 2 0],[(.cell 2 1,6),(.cell 2 2,5),(.cell 2 3,5)],[.cell 2 0,.cell 2 2,.cell 2 3],[(.cell 2 1,6)],[]⟩|1=>some ⟨[.slot 5,.cell 2 0,.cell 2 1],[(.cell 2 2,5),(.cell 2 3,5)],[(2,4)],[],[.cell 2 0,.cell 2 1],[(.cell 2 2,5),(.cell 2 3,5)],[.cell 2 0,.cell 2 1],[(.cell 2 2,5),(.cell 2 3,5)],[3]⟩|2=>some ⟨[.slot 9,.cell 10 0,.cell 10 1,.cell 10 2,.cell 10 3],[(.cell 10 4,4)],[(10,5)],[],[.cell 10 0,.cell 10 1,.cell 10 2,.cell 10 3],[(.cell 10 4,4)],[.cell 10 0,.cell 10 1,.cell 10 2,.cell 10 3],[(.cell 10 4,4)],[]⟩|3=>some ⟨[.slot 11,.cell 2 0,.cell 2 1],[(.cell 2 2,5),(.cell 2 3,5)],[(2,4)],[],[.cell 2 0,.cell 2 1],[(.cell 2 2,5),(.cell 2 3,5)],[.cell 2 0,.cell 2 1],[(.cell 2 2,5),(.cell 2 3,5)],[]⟩|_=>none
def zgn(a j:DV)(b:List DV)(c:List OC):Option PX:=za (xl a) fun k=>za (zg .lss (zy b 0) k) fun l=>ifB l (za (uh 4 a (zy b 0)) fun d=>za (zg .add (I6 48) (zy b 0)) fun m=>za (zZ .u8 m) fun n=>za (zgw (.lst 1 [[n]])) fun o=>za (zgv .add (.str ⟨#[67]⟩) o) fun g=>za (zZ .i64 (atD d 0)) fun p=>za (zg .rem p j) fun e=>za (zZ .i64 (atD d 1)) fun q=>za (zg .rem q j) fun f=>za (zZ .i64 (atD d 2)) fun r=>za (zg .rem r (I6 25)) fun h=>za (zg .eql e f) fun s=>ifB s (za (zg .eql h (I6 0)) fun t=>ifB t (gd (fits 48 (xu (zU c 1)+1)) (za (zg .add (zy b 0) (I6 1)) fun v=>some (.normal,[v,zy b 1,zy b 2],[zU c 0,some (zL (zU c 1)++[[g,e,f,I6 12,atD d 3]])]))) (gd (fits 48 (xu (zU c 1)+1)) (za (zg .add (zy b 0) (I6 1)) fun w=>some (.normal,[w,zy b 1,zy b 2],[zU c 0,some (zL (zU c 1)++[[g,e,f,h,atD d 3]])])))) (gd (fits 48 (xu (zU c 1)+1)) (za (zg .add (zy b 0) (I6 1)) fun x=>some (.normal,[x,zy b 1,zy b 2],[zU c 0,some (zL (zU c 1)++[[g,e,f,h,atD d 3]])])))) (some (.exit 6,[zy b 1,zy b 2],[zU c 0,zU c 1]))
def zgo(O:Orc)(e f:List DV)(a:List DV)(d:List OC):Option PX:=za (xl (atD e 3)) fun g=>za (zg .lss (zy a 0) g) fun h=>ifB h (za (uh 4 (atD e 3) (zy a 0)) fun b=>bA 4 (O 40 [S1 (zy f 2),SA [zy a 3,zy a 4],SA [atD b 0,atD b 1,atD b 2,atD b 3],S1 (zy a 0)]) fun c=>gd (fits 56 (xu (zU d 0)+1)) (za (zg .add (zy a 0) (I6 1)) fun j=>some (.normal,[j,zy a 1,zy a 2,zy a 3,zy a 4],[some (zL (zU d 0)++[[atD c 0,atD c 1,atD c 2,atD c 3]])]))) (some (.exit 4,[zy a 1,zy a 2,zy a 3,zy a 4],[zU d 0]))
def zgp(O:Orc)(a:DV)(b:List DV)(c:List OC):Option PX:=za (xl a) fun j=>za (zg .lss (zy b 0) j) fun k=>ifB k (za (uh 4 a (zy b 0)) fun e=>za (zg .rem (atD e 0) (U8 12)) fun l=>za (zZ .i64 l) fun m=>za (zg .add (I6 36) m) fun g=>za (zg .add (I6 48) (zy b 0)) fun n=>za (zZ .u8 n) fun o=>za (zgw (.lst 1 [[o]])) fun p=>za (zgv .add (.str ⟨#[68]⟩) p) fun q=>za (zg .rem (atD e 1) (U8 9)) fun r=>za (zZ .i64 r) fun s=>za (zg .add g s) fun t=>xa (z6 (zgo O e b) [I6 0,q,atD e 2,g,t] [none]) (fun f d h=>bif Nat.beq f 4 then (gd (fits 64 (xu (zU c 0)+1)) (za (zg .add (zy b 0) (I6 1)) fun v=>some (.normal,[v,zy b 1,zy b 2],[some (zL (zU c 0)++[[zy d 0,zy d 1,zy d 2,zy d 3,mkL 4 (zU h 0)]]),zU c 1]))) else(bif Nat.beq f 3 then (za (zg .add (zy b 0) (I6 1)) fun w=>some (.normal,[w,zy b 1,zy b 2],[zU c 0,zU c 1])) else(some (.exit f,[zy b 1,zy b 2],[zU c 0,zU c 1])))) (fun _d _h=>none)) (some (.exit 2,[zy b 1,zy b 2],[zU c 0,zU c 1]))
def znZ(O:Orc)(a:DV)(d:List DV)(c:List OC):Option PX:=za (xl a) fun f=>za (zg .lss (zy d 0) f) fun g=>ifB g (za (uh 9 a (zy d 0)) fun b=>bA 6 (O 39 [SA [atD b 0,atD b 1,atD b 2,atD b 3,atD b 4,atD b 5,atD b 6,atD b 7,atD b 8],S1 (zy d 0)]) fun e=>gd (fits 80 (xu (zU c 0)+1)) (za (zg .add (zy d 0) (I6 1)) fun h=>some (.normal,[h,zy d 1],[some (zL (zU c 0)++[[atD e 0,atD e 1,atD e 2,atD e 3,atD e 4,atD e 5]]),zU c 1,zU c 2]))) (some (.exit 0,[zy d 1],[zU c 0,zU c 1,zU c 2]))
def P22(O:Orc)(a b c:DV):Option DA:=xa (z6 (znZ O a) [I6 0,.str ⟨#[79,114,103,97,110]⟩] [none,none,none]) (fun k j d=>bif Nat.beq k 0 then (xa (z6 (zgp O b) [I6 0,zy j 0,mkL 6 (zU d 0)] [zU d 1,zU d 2]) (fun l e f=>bif Nat.beq l 2 then (za (xl b) fun m=>xa (z6 (zgn c m) [I6 0,zy e 0,zy e 1] [zU f 0,zU f 1]) (fun n g h=>bif Nat.beq n 6 then (some (SA [zy g 0,zy g 1,mkL 5 (zU h 0),mkL 5 (zU h 1)])) else(none)) (fun _g _h=>none)) else(none)) (fun _e _f=>none)) else(none)) (fun _j _d=>none)
theorem p22(O:Orc)(a b c:DV):pF O zyP 22 [SA [a,b,c]]=P22 O a b c:=by kernel_rfl
def zyO:Nat->Option LA:=fun i=>match i with|0=>some ⟨[.slot 6,.cell 3 1,.cell 3 2],[(.cell 3 0,1)],[(3,3)],[],[.cell 3 1,.cell 3 2],[(.cell 3 0,1)],[.cell 3 1,.cell 3 2],[(.cell 3 0,1)],[]⟩|_=>none
def zgm(a b c d f h:DV)(e:List DV)(g:List OC):Option PX:=za (xl a) fun j=>za (zg .lss (zy e 0) j) fun k=>ifB k (za (zg .rem (zy e 0) (I6 3)) fun l=>za (j4 5 l) fun m=>za (zZ .u64 (atD [b,c,d,f,h] m)) fun n=>za (uh 5 a (zy e 0)) fun o=>za (xl (atD o 4)) fun p=>za (zZ .u64 p) fun q=>za (vQ true (U64 1) q) fun r=>za (zg .sub r (U64 1)) fun s=>za (zg .and n s) fun t=>gd (fits 8 (xu (zU g 0)+1)) (za (zg .add (zy e 0) (I6 1)) fun v=>some (.normal,[v,zy e 1,zy e 2],[some (zL (zU g 0)++[[t]])]))) (some (.exit 0,[zy e 1,zy e 2],[zU g 0]))
def P23(_O:Orc)(_a _b c d f h j m r:DV):Option DA:=za (zZ .u64 (atD [f,h,j,m,r] 3)) fun e=>za (xl d) fun g=>za (zZ .u64 g) fun k=>za (vQ true (U64 1) k) fun l=>za (zg .sub l (U64 1)) fun n=>za (zg .and e n) fun o=>za (zZ .u64 (atD [f,h,j,m,r] 4)) fun p=>za (xl c) fun q=>za (zZ .u64 q) fun s=>za (vQ true (U64 1) s) fun t=>za (zg .sub t (U64 1)) fun v=>za (zg .and p v) fun w=>xa (z6 (zgm c f h j m r) [I6 0,o,w] [none]) (fun x a b=>bif Nat.beq x 0 then (some (SA [mkL 1 (zU b 0),zy a 0,zy a 1])) else(none)) (fun _a _b=>none)
theorem p23(O:Orc)(a b c d f h j m r:DV):pF O zyO 23 [SA [a,b,c,d],SA [f,h,j,m,r]]=P23 O a b c d f h j m r:=by kernel_rfl
def zyN:Nat->Option LA:=fun i=>match i with|0=>some ⟨[.slot 3],[],[],[],[],[],[.slot 2],[],[]⟩|_=>none
def znY(O:Orc)(c:DV)(a:List DV)(_q:List OC):Option PX:=za (zj7 c) fun d=>za (zg .lss (zy a 0) d) fun e=>ifB e (za (zaJ c (zy a 0)) fun b=>b1 (O 41 [S1 b]) fun f=>za (zec f) fun g=>ifB g (za (zg .lss b (U8 48)) fun h=>ifB h (za (zg .neq b (U8 95)) fun j=>ifB j (some (.ret,[.bool false],[])) (za (zg .add (zy a 0) (I6 1)) fun k=>some (.normal,[k],[]))) (za (zg .gtr b (U8 57)) fun l=>ifB l (za (zg .neq b (U8 95)) fun m=>ifB m (some (.ret,[.bool false],[])) (za (zg .add (zy a 0) (I6 1)) fun n=>some (.normal,[n],[]))) (za (zg .add (zy a 0) (I6 1)) fun o=>some (.normal,[o],[])))) (za (zg .add (zy a 0) (I6 1)) fun p=>some (.normal,[p],[]))) (some (.exit 0,[],[]))
def P24(O:Orc)(a:DV):Option DA:=za (zgv .eql a (.str ⟨#[]⟩)) fun c=>ifB c (some (S1 (.bool false))) (za (zj7 a) fun d=>za (zg .gtr d (I6 32)) fun e=>ifB e (some (S1 (.bool false))) (za (zaJ a (I6 0)) fun f=>b1 (O 41 [S1 f]) fun g=>za (zec g) fun h=>ifB h (some (S1 (.bool false))) (xa (z6 (znY O a) [I6 1] []) (fun j _b _k=>bif Nat.beq j 0 then (some (S1 (.bool true))) else(none)) (fun b _k=>some (S1 (zy b 0))))))
theorem p24(O:Orc)(a0:DV):pF O zyN 24 [S1 a0]=P24 O a0:=by kernel_rfl
def P25(O:Orc)(a b c d f h:DV):Option DA:=b1 (O 24 [S1 a]) fun g=>za (zec g) fun j=>ifB j (some (S1 (I6 8))) (b1 (O 24 [S1 b]) fun k=>za (zec k) fun l=>ifB l (some (S1 (I6 8))) (b1 (O 42 [SA [c,d]]) fun e=>za (zg .neq e (I6 0)) fun m=>ifB m (some (S1 e)) (b1 (O 43 [S1 f]) fun n=>za (zec n) fun o=>ifB o (some (S1 (I6 3))) (za (xl h) fun p=>za (zg .eql p (I6 0)) fun q=>ifB q (some (S1 (I6 13))) (za (xl h) fun r=>za (zg .gtr r (I6 128)) fun s=>ifB s (some (S1 (I6 4))) (b1 (O 44 [S1 h]) fun t=>some (S1 t)))))))
theorem p25(O:Orc)(a b c d f h:DV):pF O an0 25 [SA [a,b,c,d,f,h]]=P25 O a b c d f h:=by kernel_rfl
def zyM:Nat->Option LA:=fun i=>match i with|0=>some ⟨[.slot 25],[],[],[(2,1048576)],[],[],[.slot 4],[],[]⟩|_=>none
def znX(O:Orc)(k a b c d:DV)(g:List DV)(f:List OC):Option PX:=za (zg .lss (zy g 0) k) fun l=>ifB l (za (uh 4 a (zy g 0)) fun e=>b1 (O 46 [SA [b,c,d],SA [atD e 0,atD e 1,atD e 2,atD e 3]]) fun h=>za (zg .neq h (I6 0)) fun m=>ifB m (some (.ret,[h],[some (zL (zU f 0))])) (za (zgz (.inl 2) (.one (atD e 0)) (.one (atD e 0))) fun _s=>za (zeI (.inl 2) 1048576 (.one (atD e 0)) (zL (zU f 0))) fun n=>ifB (dsO (lkD (.one (.bool false)) n)) (za (zg .neq (I6 9) (I6 0)) fun o=>ifB o (some (.ret,[I6 9],[some (zL (zU f 0))])) (za (zg .add (zy g 0) (I6 1)) fun p=>some (.normal,[p],[some (zL (zU f 0))]))) (za (zgz (.inl 2) (.one (atD e 0)) (.one (atD e 0))) fun _t=>za (zn7 (.inl 2) 1048576 (.one (atD e 0)) [atD e 0,.bool true] (zL (zU f 0))) fun j=>za (zg .neq (I6 0) (I6 0)) fun q=>ifB q (some (.ret,[I6 0],[some j])) (za (zg .add (zy g 0) (I6 1)) fun r=>some (.normal,[r],[some j]))))) (some (.exit 0,[],[some (zL (zU f 0))]))
def P27(O:Orc)(_a b _c _d _f _h j m r:DV):Option DA:=b1 (O 45 [SA [j,m]]) fun a=>za (zg .neq a (I6 0)) fun d=>ifB d (some (S1 a)) (za (xl r) fun e=>za (zg .gtr e (I6 60)) fun f=>ifB f (some (S1 (I6 4))) (za (xl r) fun g=>xa (z6 (znX O g r b j m) [I6 0] [some []]) (fun h _c _k=>bif Nat.beq h 0 then (some (S1 (I6 0))) else(none)) (fun c _k=>some (S1 (zy c 0)))))
theorem p27(O:Orc)(a b c d f h j m r:DV):pF O zyM 27 [SA [a,b,c,d],SA [f,h,j,m,r]]=P27 O a b c d f h j m r:=by kernel_rfl
def zyL:Nat->Option LA:=fun i=>match i with|0=>some ⟨[.slot 19],[],[],[],[],[],[.slot 4],[],[]⟩|1=>some ⟨[.slot 29],[],[],[],[],[],[.slot 4],[],[]⟩|_=>none
def zgl(O:Orc)(e c d:DV)(b:List DV)(_y:List OC):Option PX:=za (zg .lss (zy b 0) e) fun f=>ifB f (za (uh 5 c (zy b 0)) fun a=>b1 (O 24 [S1 (atD a 0)]) fun g=>za (zec g) fun h=>ifB h (some (.ret,[I6 8],[])) (za (u1 5 c none (some (zy b 0))) fun j=>b1s (O 47 [S1 j,S1 (.fn 48 [[atD a 0,atD a 1,atD a 2,atD a 3,atD a 4]])]) fun k=>ifB k (some (.ret,[I6 9],[])) (za (zg .lss (atD a 1) (I6 0)) fun l=>ifB l (some (.ret,[I6 10],[])) (za (xl d) fun m=>za (zg .geq (atD a 1) m) fun n=>ifB n (some (.ret,[I6 10],[])) (za (zg .lss (atD a 2) (I6 0)) fun o=>ifB o (some (.ret,[I6 10],[])) (za (xl d) fun p=>za (zg .geq (atD a 2) p) fun q=>ifB q (some (.ret,[I6 10],[])) (za (zg .lss (atD a 3) (I6 (-127))) fun r=>ifB r (some (.ret,[I6 3],[])) (za (zg .gtr (atD a 3) (I6 127)) fun s=>ifB s (some (.ret,[I6 3],[])) (za (zg .eql (atD a 1) (atD a 2)) fun t=>ifB t (za (zg .eql (atD a 3) (I6 0)) fun v=>ifB v (some (.ret,[I6 7],[])) (za (zg .add (zy b 0) (I6 1)) fun w=>some (.normal,[w],[]))) (za (zg .add (zy b 0) (I6 1)) fun x=>some (.normal,[x],[]))))))))))) (some (.exit 2,[],[]))
def znW(O:Orc)(c d:DV)(a:List DV)(_j:List OC):Option PX:=za (zg .lss (zy a 0) c) fun e=>ifB e (za (uh 2 d (zy a 0)) fun b=>b1 (O 45 [SA [atD b 0,atD b 1]]) fun f=>za (zg .neq f (I6 0)) fun g=>ifB g (some (.ret,[I6 23],[])) (za (zg .add (zy a 0) (I6 1)) fun h=>some (.normal,[h],[]))) (some (.exit 0,[],[]))
def P28(O:Orc)(a b:DV):Option DA:=za (xl a) fun e=>za (zg .gtr e (I6 8)) fun f=>ifB f (some (S1 (I6 4))) (za (xl b) fun g=>za (zg .gtr g (I6 40)) fun h=>ifB h (some (S1 (I6 4))) (za (xl a) fun j=>xa (z6 (znW O j a) [I6 0] []) (fun k _c _l=>bif Nat.beq k 0 then (za (xl b) fun m=>xa (z6 (zgl O m b a) [I6 0] []) (fun n _d _o=>bif Nat.beq n 2 then (some (S1 (I6 0))) else(none)) (fun d _o=>some (S1 (zy d 0)))) else(none)) (fun c _l=>some (S1 (zy c 0)))))
theorem p28(O:Orc)(a0 a1:DV):pF O zyL 28 [S1 a0,S1 a1]=P28 O a0 a1:=by kernel_rfl
def zyK:Nat->Option LA:=fun i=>match i with|0=>some ⟨[.slot 16],[],[],[],[],[],[.slot 4],[],[]⟩|_=>none
def zx0(O:Orc)(g h a b c d:DV)(e:List DV)(_n:List OC):Option PX:=za (zg .lss (zy e 0) g) fun j=>ifB j (za (uh 1 h (zy e 0)) fun k=>b1 (O 49 [SA [a,b,c,d],S1 (atD k 0)]) fun f=>za (zg .neq f (I6 0)) fun l=>ifB l (some (.ret,[f],[])) (za (zg .add (zy e 0) (I6 1)) fun m=>some (.normal,[m],[]))) (some (.exit 0,[],[]))
def P29(O:Orc)(a b c d f h j m r s w e:DV):Option DA:=b1 (O 14 [SA [a,b,c,d,f,h,j,m,r,s,w]]) fun g=>za (zg .neq g (I6 0)) fun l=>ifB l (some (S1 g)) (za (xl e) fun n=>xa (z6 (zx0 O n e a b c d) [I6 0] []) (fun o _k _p=>bif Nat.beq o 0 then (some (S1 (I6 0))) else(none)) (fun k _p=>some (S1 (zy k 0))))
theorem p29(O:Orc)(a b c d f h j m r s w a1:DV):pF O zyK 29 [SA [a,b,c,d,f,h,j,m,r,s,w],S1 a1]=P29 O a b c d f h j m r s w a1:=by kernel_rfl
def zyJ:Nat->Option LA:=fun i=>match i with|0=>some ⟨[.slot 6,.cell 4 0,.cell 4 1,.cell 4 2,.cell 4 3,.cell 4 4],[(.cell 4 5,1)],[(4,6)],[],[.cell 4 0,.cell 4 1,.cell 4 2,.cell 4 3,.cell 4 4],[(.cell 4 5,1)],[.cell 4 0,.cell 4 1,.cell 4 2,.cell 4 3,.cell 4 4],[(.cell 4 5,1)],[]⟩|_=>none
def zgk(a b c d f h:DV)(e:List DV)(g:List OC):Option PX:=za (zg .rem a (U8 25)) fun j=>za (zZ .i64 j) fun k=>za (zg .add (I6 1) k) fun l=>za (zg .lss (zy e 0) l) fun m=>ifB m (za (zg .rem (zy e 0) (I6 5)) fun n=>za (j4 5 n) fun o=>za (zZ .i64 (atD [b,c,d,f,h] o)) fun p=>gd (fits 8 (xu (zU g 0)+1)) (za (zg .add (zy e 0) (I6 1)) fun q=>some (.normal,[q,zy e 1,zy e 2,zy e 3,zy e 4,zy e 5],[some (zL (zU g 0)++[[p]])]))) (some (.exit 0,[zy e 1,zy e 2,zy e 3,zy e 4,zy e 5],[zU g 0]))
def P39(O:Orc)(a b c d f h j m r l:DV):Option DA:=za (zg .rem l (I6 10)) fun n=>za (zg .add (I6 48) n) fun o=>za (zZ .u8 o) fun p=>za (zgw (.lst 1 [[p]])) fun q=>za (zgv .add (.str ⟨#[82]⟩) q) fun s=>za (zg .rem a (U8 3)) fun t=>za (yn (some [[.str ⟨#[79,112,101,110]⟩],[.str ⟨#[70,108,117,116,101]⟩],[.str ⟨#[82,101,101,100]⟩]]) t) fun v=>za (j5 (some [[.str ⟨#[79,112,101,110]⟩],[.str ⟨#[70,108,117,116,101]⟩],[.str ⟨#[82,101,101,100]⟩]]) v) fun w=>bA 2 (O 63 [S1 b]) fun g=>za (zZ .i64 c) fun x=>xa (z6 (zgk d f h j m r) [I6 0,s,atD w 0,atD g 0,atD g 1,x] [none]) (fun y e k=>bif Nat.beq y 0 then (some (SA [zy e 0,zy e 1,zy e 2,zy e 3,zy e 4,mkL 1 (zU k 0)])) else(none)) (fun _e _k=>none)
theorem p39(O:Orc)(a b c d f h j m r a1:DV):pF O zyJ 39 [SA [a,b,c,d,f,h,j,m,r],S1 a1]=P39 O a b c d f h j m r a1:=by kernel_rfl
def P40(O:Orc)(m a b c d f h C:DV):Option DA:=za (zZ .i64 c) fun E=>za (xl m) fun F=>za (zg .rem E F) fun g=>za (zg .add (I6 48) C) fun G=>za (zZ .u8 G) fun H=>za (zgw (.lst 1 [[H]])) fun J=>za (zgv .add (.str ⟨#[83]⟩) J) fun l=>bA 2 (O 64 [S1 d]) fun e=>za (uh 6 m g) fun q=>bT [none,none] (O 65 [SA [atD e 0,atD e 1],SA [atD q 2,atD q 3]]) fun k=>za (zZ .i64 h) fun K=>za (zg .sub b a) fun L=>za (zg .add L (I6 1)) fun M=>za (zg .rem K M) fun N=>za (zg .add a N) fun j=>za (zg .rem f (U8 6)) fun n=>za (zg .eql n (U8 2)) fun P=>ifB P (za (zg .add (dsO (wX k 0)) (I6 7)) fun Q=>some (SA [l,atD e 0,atD e 1,.lst 3 [[a,b,.lst 2 [[g,dsO (wX k 0)],[g,Q]]]]])) (za (zg .eql n (U8 3)) fun R=>ifB R (za (zg .sub (dsO (wX k 0)) (I6 12)) fun r=>za (zg .rem f (U8 6)) fun S=>za (zg .eql S (U8 3)) fun T=>ifB T (za (zg .add g (I6 1)) fun U=>za (xl m) fun V=>za (zg .rem U V) fun o=>za (uh 6 m o) fun s=>bT [none,none] (O 65 [SA [atD e 0,atD e 1],SA [atD s 2,atD s 3]]) fun t=>za (zg .gtr j a) fun W=>ifB W (za (zg .sub j (I6 1)) fun v=>gd (fits 40 1) (gd (fits 40 (xu (some (zL none++[[a,v,.lst 2 [[g,dsO (wX k 0)]]]]))+1)) (some (SA [l,atD e 0,atD e 1,.lst 3 (zL (some (zL none++[[a,v,.lst 2 [[g,dsO (wX k 0)]]]]))++[[j,b,.lst 2 [[o,dsO (wX t 0)]]]])])))) (gd (fits 40 1) (some (SA [l,atD e 0,atD e 1,.lst 3 (zL none++[[j,b,.lst 2 [[o,dsO (wX t 0)]]]])])))) (za (zg .gtr j a) fun X=>ifB X (za (zg .sub j (I6 1)) fun w=>gd (fits 40 1) (gd (fits 40 (xu (some (zL none++[[a,w,.lst 2 [[g,dsO (wX k 0)]]]]))+1)) (some (SA [l,atD e 0,atD e 1,.lst 3 (zL (some (zL none++[[a,w,.lst 2 [[g,dsO (wX k 0)]]]]))++[[j,b,.lst 2 [[g,r]]]])])))) (gd (fits 40 1) (some (SA [l,atD e 0,atD e 1,.lst 3 (zL none++[[j,b,.lst 2 [[g,r]]]])]))))) (za (zg .eql n (U8 4)) fun Y=>ifB Y (za (zg .sub (dsO (wX k 0)) (I6 12)) fun x=>za (zg .rem f (U8 6)) fun Z=>za (zg .eql Z (U8 3)) fun aa=>ifB aa (za (zg .add g (I6 1)) fun ab=>za (xl m) fun ac=>za (zg .rem ab ac) fun p=>za (uh 6 m p) fun y=>bT [none,none] (O 65 [SA [atD e 0,atD e 1],SA [atD y 2,atD y 3]]) fun z=>za (zg .gtr j a) fun ad=>ifB ad (za (zg .sub j (I6 1)) fun A=>gd (fits 40 1) (gd (fits 40 (xu (some (zL none++[[a,A,.lst 2 [[g,dsO (wX k 0)]]]]))+1)) (some (SA [l,atD e 0,atD e 1,.lst 3 (zL (some (zL none++[[a,A,.lst 2 [[g,dsO (wX k 0)]]]]))++[[j,b,.lst 2 [[p,dsO (wX z 0)]]]])])))) (gd (fits 40 1) (some (SA [l,atD e 0,atD e 1,.lst 3 (zL none++[[j,b,.lst 2 [[p,dsO (wX z 0)]]]])])))) (za (zg .gtr j a) fun ae=>ifB ae (za (zg .sub j (I6 1)) fun B=>gd (fits 40 1) (gd (fits 40 (xu (some (zL none++[[a,B,.lst 2 [[g,dsO (wX k 0)]]]]))+1)) (some (SA [l,atD e 0,atD e 1,.lst 3 (zL (some (zL none++[[a,B,.lst 2 [[g,dsO (wX k 0)]]]]))++[[j,b,.lst 2 [[g,x]]]])])))) (gd (fits 40 1) (some (SA [l,atD e 0,atD e 1,.lst 3 (zL none++[[j,b,.lst 2 [[g,x]]]])]))))) (za (zg .eql n (U8 5)) fun af=>ifB af (some (SA [l,atD e 0,atD e 1,.lst 3 [[j,b,.lst 2 [[g,dsO (wX k 0)]]]]])) (some (SA [l,atD e 0,atD e 1,.lst 3 [[a,b,.lst 2 [[g,dsO (wX k 0)]]]]])))))
theorem p40(O:Orc)(a0 a b c d f h a3:DV):pF O an0 40 [S1 a0,SA [a,b],SA [c,d,f,h],S1 a3]=P40 O a0 a b c d f h a3:=by kernel_rfl
def P41(_O:Orc)(a:DV):Option DA:=za (zg .geq a (U8 65)) fun b=>ifB b (za (zg .leq a (U8 90)) fun c=>ifB c (some (S1 (.bool true))) (za (zg .geq a (U8 97)) fun d=>ifB d (za (zg .leq a (U8 122)) fun e=>some (S1 e)) (some (S1 (.bool false))))) (za (zg .geq a (U8 97)) fun f=>ifB f (za (zg .leq a (U8 122)) fun g=>some (S1 g)) (some (S1 (.bool false))))
theorem p41(O:Orc)(a0:DV):pF O an0 41 [S1 a0]=P41 O a0:=by kernel_rfl
def P42(O:Orc)(a b:DV):Option DA:=b1 (O 66 [SA [a,b]]) fun c=>za (zg .neq c (I6 0)) fun d=>ifB d (some (S1 (I6 2))) (za (zg .leq a (I6 0)) fun e=>ifB e (some (S1 (I6 3))) (za (zg .mul (I6 128) b) fun f=>za (zg .gtr a f) fun g=>ifB g (some (S1 (I6 3))) (za (zg .gtr b (I6 128)) fun h=>ifB h (some (S1 (I6 4))) (some (S1 (I6 0))))))
theorem p42(O:Orc)(a b:DV):pF O an0 42 [SA [a,b]]=P42 O a b:=by kernel_rfl
def P43(_O:Orc)(a:DV):Option DA:=za (zg .geq a (I6 (-256))) fun b=>ifB b (za (zg .leq a (I6 256)) fun c=>some (S1 c)) (some (S1 (.bool false)))
theorem p43(O:Orc)(a0:DV):pF O an0 43 [S1 a0]=P43 O a0:=by kernel_rfl
def P44(O:Orc)(a:DV):Option DA:=b1 (O 67 [S1 a,S1 (.fn 68 [])]) fun b=>ifB b (some (S1 (I6 3))) (some (S1 (I6 0)))
theorem p44(O:Orc)(a0:DV):pF O an0 44 [S1 a0]=P44 O a0:=by kernel_rfl
def P45(_O:Orc)(a b:DV):Option DA:=za (zg .lss a (I6 0)) fun c=>ifB c (some (S1 (I6 3))) (za (zg .gtr b (I6 127)) fun d=>ifB d (some (S1 (I6 3))) (za (zg .gtr a b) fun e=>ifB e (some (S1 (I6 23))) (some (S1 (I6 0)))))
theorem p45(O:Orc)(a b:DV):pF O an0 45 [SA [a,b]]=P45 O a b:=by kernel_rfl
def zyI:Nat->Option LA:=fun i=>match i with|0=>some ⟨[.slot 38],[],[],[],[],[],[.slot 4],[],[]⟩|_=>none
def zgj(O:Orc)(j a b c d:DV)(f:List DV)(_z:List OC):Option PX:=za (zg .lss (zy f 0) j) fun k=>ifB k (za (uh 3 a (zy f 0)) fun e=>za (uG false (atD e 0) [atD e 1]) fun l=>za (zg .lss l b) fun m=>ifB m (some (.ret,[I6 23],[])) (za (uG true (atD e 0) [atD e 1]) fun n=>za (zg .gtr n c) fun o=>ifB o (some (.ret,[I6 23],[])) (za (zg .gtr (atD e 0) (atD e 1)) fun p=>ifB p (some (.ret,[I6 6],[])) (za (zg .gtr (zy f 0) (I6 0)) fun q=>ifB q (za (zg .sub (zy f 0) (I6 1)) fun r=>za (uh 3 a r) fun s=>za (zg .leq (atD e 0) (atD s 1)) fun t=>ifB t (some (.ret,[I6 6],[])) (b1 (O 70 [SA [d,b,c],S1 (atD e 2)]) fun g=>za (zg .neq g (I6 0)) fun v=>ifB v (some (.ret,[g],[])) (za (zg .add (zy f 0) (I6 1)) fun w=>some (.normal,[w],[])))) (b1 (O 70 [SA [d,b,c],S1 (atD e 2)]) fun h=>za (zg .neq h (I6 0)) fun x=>ifB x (some (.ret,[h],[])) (za (zg .add (zy f 0) (I6 1)) fun y=>some (.normal,[y],[]))))))) (some (.exit 1,[],[]))
def P46(O:Orc)(a b c d f h j:DV):Option DA:=b1 (O 69 [SA [a,b,c]]) fun e=>za (zg .neq e (I6 0)) fun l=>ifB l (some (S1 e)) (b1 (O 24 [S1 d]) fun m=>za (zec m) fun n=>ifB n (some (S1 (I6 8))) (b1 (O 42 [SA [f,h]]) fun g=>za (zg .neq g (I6 0)) fun o=>ifB o (some (S1 g)) (za (xl j) fun p=>za (zg .eql p (I6 0)) fun q=>ifB q (some (S1 (I6 13))) (za (xl j) fun r=>za (zg .gtr r (I6 12)) fun s=>ifB s (some (S1 (I6 4))) (za (xl j) fun t=>xa (z6 (zgj O t j b c a) [I6 0] []) (fun v _k _w=>bif Nat.beq v 1 then (some (S1 (I6 0))) else(none)) (fun k _w=>some (S1 (zy k 0))))))))
theorem p46(O:Orc)(a b c d f h j:DV):pF O zyI 46 [SA [a,b,c],SA [d,f,h,j]]=P46 O a b c d f h j:=by kernel_rfl
def P47(O:Orc)(a b:DV):Option DA:=b1 (O 71 [S1 a,S1 b]) fun c=>za (zg .geq c (I6 0)) fun d=>some (S1 d)
theorem p47(O:Orc)(a0 a1:DV):pF O an0 47 [S1 a0,S1 a1]=P47 O a0 a1:=by kernel_rfl
def P48(_O:Orc)(a _b _c _d _f h _j _m _r _s:DV):Option DA:=za (zgv .eql a h) fun b=>some (S1 b)
theorem p48(O:Orc)(a b c d f h j m r s:DV):pF O an0 48 [SA [a,b,c,d,f],S1 (.fp [h,j,m,r,s] 0)]=P48 O a b c d f h j m r s:=by kernel_rfl
def P63(_O:Orc)(b:DV):Option DA:=za (zg .rem b (U8 16)) fun c=>za (yn (some [[I6 8,I6 1],[I6 4,I6 1],[I6 16,I6 1],[I6 2,I6 1],[I6 8,I6 3],[I6 8,I6 5],[I6 4,I6 3],[I6 1,I6 1],[I6 32,I6 1],[I6 16,I6 3],[I6 16,I6 5],[I6 32,I6 3],[I6 8,I6 7],[I6 2,I6 3],[I6 1,I6 2],[I6 64,I6 1]]) c) fun d=>za (j5 (some [[I6 8,I6 1],[I6 4,I6 1],[I6 16,I6 1],[I6 2,I6 1],[I6 8,I6 3],[I6 8,I6 5],[I6 4,I6 3],[I6 1,I6 1],[I6 32,I6 1],[I6 16,I6 3],[I6 16,I6 5],[I6 32,I6 3],[I6 8,I6 7],[I6 2,I6 3],[I6 1,I6 2],[I6 64,I6 1]]) d) fun a=>some (SA [atD a 0,atD a 1])
theorem p63(O:Orc)(a0:DV):pF O an0 63 [S1 a0]=P63 O a0:=by kernel_rfl
def P64(_O:Orc)(b:DV):Option DA:=za (zg .rem b (U8 6)) fun c=>za (yn (some [[I6 8,I6 1],[I6 4,I6 1],[I6 16,I6 1],[I6 8,I6 3],[I6 2,I6 1],[I6 8,I6 5]]) c) fun d=>za (j5 (some [[I6 8,I6 1],[I6 4,I6 1],[I6 16,I6 1],[I6 8,I6 3],[I6 2,I6 1],[I6 8,I6 5]]) d) fun a=>some (SA [atD a 0,atD a 1])
theorem p64(O:Orc)(a0:DV):pF O an0 64 [S1 a0]=P64 O a0:=by kernel_rfl
def P65(O:Orc)(a b c d:DV):Option DA:=b1 (O 86 [SA [a,b],SA [c,d]]) fun e=>za (zg .neq e (I6 0)) fun f=>ifB f (some (.tup [.one (I6 0),.one e])) (b1 (O 87 [SA [a,b],SA [c,d]]) fun g=>some (.tup [.one g,.one (I6 0)]))
theorem p65(O:Orc)(a b c d:DV):pF O an0 65 [SA [a,b],SA [c,d]]=P65 O a b c d:=by kernel_rfl
def P66(O:Orc)(a b:DV):Option DA:=za (zg .leq b (I6 0)) fun c=>ifB c (some (S1 (I6 2))) (za (zg .gtr b (I6 1000000)) fun d=>ifB d (some (S1 (I6 2))) (za (zg .lss a (I6 (-1000000))) fun e=>ifB e (some (S1 (I6 2))) (za (zg .gtr a (I6 1000000)) fun f=>ifB f (some (S1 (I6 2))) (b1 (O 89 [S1 a]) fun g=>za (zZ .u64 b) fun h=>b1 (O 88 [S1 g,S1 h]) fun j=>za (zg .neq j (U64 1)) fun k=>ifB k (some (S1 (I6 2))) (some (S1 (I6 0)))))))
theorem p66(O:Orc)(a b:DV):pF O an0 66 [SA [a,b]]=P66 O a b:=by kernel_rfl
def P67(O:Orc)(a b:DV):Option DA:=b1 (O 90 [S1 a,S1 b]) fun c=>za (zg .geq c (I6 0)) fun d=>some (S1 d)
theorem p67(O:Orc)(a0 a1:DV):pF O an0 67 [S1 a0,S1 a1]=P67 O a0 a1:=by kernel_rfl
def P68(_O:Orc)(a:DV):Option DA:=za (zg .lss a (I6 0)) fun b=>ifB b (some (S1 (.bool true))) (za (zg .gtr a (I6 1000000)) fun c=>some (S1 c))
theorem p68(O:Orc)(a0:DV):pF O an0 68 [S1 a0]=P68 O a0:=by kernel_rfl
def zyH:Nat->Option LA:=fun i=>match i with|0=>some ⟨[.slot 13],[],[],[],[],[],[.slot 2],[],[]⟩|_=>none
def znV(O:Orc)(e a:DV)(c:List DV)(_j:List OC):Option PX:=za (zg .lss (zy c 0) e) fun f=>ifB f (za (uh 6 a (zy c 0)) fun b=>b1 (O 25 [SA [atD b 0,atD b 1,atD b 2,atD b 3,atD b 4,atD b 5]]) fun d=>za (zg .neq d (I6 0)) fun g=>ifB g (some (.ret,[d],[])) (za (zg .add (zy c 0) (I6 1)) fun h=>some (.normal,[h],[]))) (some (.exit 0,[],[]))
def P69(O:Orc)(a b c:DV):Option DA:=za (xl a) fun e=>za (zg .gtr e (I6 60)) fun f=>ifB f (some (S1 (I6 4))) (za (xl a) fun g=>xa (z6 (znV O g a) [I6 0] []) (fun h _d _j=>bif Nat.beq h 0 then (b1 (O 45 [SA [b,c]]) fun k=>some (S1 k)) else(none)) (fun d _j=>some (S1 (zy d 0))))
theorem p69(O:Orc)(a b c:DV):pF O zyH 69 [SA [a,b,c]]=P69 O a b c:=by kernel_rfl
def zyG:Nat->Option LA:=fun i=>match i with|0=>some ⟨[.slot 12],[],[],[],[],[],[.slot 4],[],[]⟩|_=>none
def znU(O:Orc)(e d a:DV)(c:List DV)(_p:List OC):Option PX:=za (zg .lss (zy c 0) e) fun f=>ifB f (za (uh 2 d (zy c 0)) fun b=>za (zg .lss (atD b 0) (I6 0)) fun g=>ifB g (some (.ret,[I6 10],[])) (za (xl a) fun h=>za (zg .geq (atD b 0) h) fun j=>ifB j (some (.ret,[I6 10],[])) (za (zg .lss (atD b 1) (I6 (-127))) fun k=>ifB k (some (.ret,[I6 3],[])) (za (zg .gtr (atD b 1) (I6 127)) fun l=>ifB l (some (.ret,[I6 3],[])) (za (u1 2 d none (some (zy c 0))) fun m=>b1 (O 91 [S1 m,SA [atD b 0,atD b 1]]) fun n=>ifB n (some (.ret,[I6 9],[])) (za (zg .add (zy c 0) (I6 1)) fun o=>some (.normal,[o],[]))))))) (some (.exit 0,[],[]))
def P70(O:Orc)(a _b _c b:DV):Option DA:=za (xl b) fun d=>za (zg .gtr d (I6 8)) fun e=>ifB e (some (S1 (I6 4))) (za (xl b) fun f=>xa (z6 (znU O f b a) [I6 0] []) (fun g _c _h=>bif Nat.beq g 0 then (some (S1 (I6 0))) else(none)) (fun c _h=>some (S1 (zy c 0))))
theorem p70(O:Orc)(a b c a1:DV):pF O zyG 70 [SA [a,b,c],S1 a1]=P70 O a b c a1:=by kernel_rfl
def zyF:Nat->Option LA:=fun i=>match i with|0=>some ⟨[.slot 8],[],[],[],[],[],[.slot 4],[],[]⟩|_=>none
def znT(O:Orc)(c d e:DV)(b:List DV)(_j:List OC):Option PX:=za (zg .lss (zy b 0) c) fun f=>ifB f (za (uh 5 d (zy b 0)) fun a=>b1 (zkO O e [SA [atD a 0,atD a 1,atD a 2,atD a 3,atD a 4]]) fun g=>ifB g (some (.ret,[zy b 0],[])) (za (zg .add (zy b 0) (I6 1)) fun h=>some (.normal,[h],[]))) (some (.exit 0,[],[]))
def P71(O:Orc)(a c:DV):Option DA:=za (xl a) fun d=>xa (z6 (znT O d a c) [I6 0] []) (fun e _b _f=>bif Nat.beq e 0 then (some (S1 (I6 (-1)))) else(none)) (fun b _f=>some (S1 (zy b 0)))
theorem p71(O:Orc)(a0 a1:DV):pF O zyF 71 [S1 a0,S1 a1]=P71 O a0 a1:=by kernel_rfl
def P86(O:Orc)(a b c d:DV):Option DA:=b1 (O 42 [SA [a,b]]) fun e=>za (zg .neq e (I6 0)) fun f=>ifB f (some (S1 e)) (b1 (O 42 [SA [c,d]]) fun g=>some (S1 g))
theorem p86(O:Orc)(a b c d:DV):pF O an0 86 [SA [a,b],SA [c,d]]=P86 O a b c d:=by kernel_rfl
def zyE:Nat->Option LA:=fun i=>match i with|0=>some ⟨[.slot 5,.slot 7],[],[],[],[.slot 5,.slot 7],[],[],[],[]⟩|1=>some ⟨[.slot 6,.slot 7],[],[],[],[.slot 6,.slot 7],[],[],[],[]⟩|2=>some ⟨[.slot 12,.slot 7],[],[],[],[.slot 7],[],[],[],[]⟩|_=>none
def zgi(O:Orc)(b:List DS)(a:List DV)(_g:List OC):Option PX:=b1 (O 107 [S1 (dsO (wX b 0)),S1 (zy a 0)]) fun c=>za (zg .gtr c (I6 0)) fun d=>ifB d (za (zg .add (zy a 1) (I6 1)) fun e=>b1 (O 106 [S1 (zy a 0),S1 (.str ⟨#[52]⟩)]) fun f=>some (.normal,[f,e],[])) (some (.exit 4,[zy a 1],[]))
def zdH(b:List DV)(a:List DV)(_g:List OC):Option PX:=za (zg .mul (I6 2) (zy a 0)) fun c=>za (zg .geq (zy b 0) c) fun d=>ifB d (za (zg .mul (zy a 0) (I6 2)) fun e=>za (zg .add (zy a 1) (I6 12)) fun f=>some (.normal,[e,f],[])) (some (.exit 2,[zy a 0,zy a 1],[]))
def zkR(b:DV)(a:List DV)(_f:List OC):Option PX:=za (zg .lss (zy a 0) b) fun c=>ifB c (za (zg .mul (zy a 0) (I6 2)) fun d=>za (zg .sub (zy a 1) (I6 12)) fun e=>some (.normal,[d,e],[])) (some (.exit 0,[zy a 0,zy a 1],[]))
def P87(O:Orc)(a b c d:DV):Option DA:=za (zg .mul c b) fun j=>za (zg .mul d a) fun g=>xa (z6 (zkR g) [j,I6 0] []) (fun k e _l=>bif Nat.beq k 0 then (xa (z6 (zdH e) [g,zy e 1] []) (fun m f _n=>bif Nat.beq m 2 then (b1 (O 105 [S1 (zy e 0)]) fun o=>bT [none,none] (O 104 [S1 o,S1 (I6 24)]) fun p=>b1 (O 105 [S1 (zy f 0)]) fun q=>bT [none,none] (O 104 [S1 q,S1 (I6 24)]) fun r=>b1 (O 106 [S1 (dsO (wX r 0)),S1 (.str ⟨#[50]⟩)]) fun s=>xa (z6 (zgi O p) [s,zy f 1] []) (fun t h _v=>bif Nat.beq t 4 then (some (S1 (zy h 0))) else(none)) (fun _h _v=>none)) else(none)) (fun _f _n=>none)) else(none)) (fun _e _l=>none)
theorem p87(O:Orc)(a b c d:DV):pF O zyE 87 [SA [a,b],SA [c,d]]=P87 O a b c d:=by kernel_rfl
def zyD:Nat->Option LA:=fun i=>match i with|0=>some ⟨[.slot 1,.slot 0],[],[],[],[.slot 0],[],[],[],[]⟩|_=>none
def zp2(a:List DV)(_d:List OC):Option PX:=za (zg .gtr (zy a 0) (U64 0)) fun b=>ifB b (za (zg .rem (zy a 1) (zy a 0)) fun c=>some (.normal,[c,zy a 0],[])) (some (.exit 0,[zy a 1],[]))
def P88(_O:Orc)(b c:DV):Option DA:=xa (z6 zp2 [c,b] []) (fun d a _e=>bif Nat.beq d 0 then (some (S1 (zy a 0))) else(none)) (fun _a _e=>none)
theorem p88(O:Orc)(a0 a1:DV):pF O zyD 88 [S1 a0,S1 a1]=P88 O a0 a1:=by kernel_rfl
def P89(_O:Orc)(a:DV):Option DA:=za (zg .lss a (I6 0)) fun b=>ifB b (za (zZ .u64 a) fun c=>za (zua c) fun d=>some (S1 d)) (za (zZ .u64 a) fun e=>some (S1 e))
theorem p89(O:Orc)(a0:DV):pF O an0 89 [S1 a0]=P89 O a0:=by kernel_rfl
def zyC:Nat->Option LA:=fun i=>match i with|0=>some ⟨[.slot 8],[],[],[],[],[],[.slot 4],[],[]⟩|_=>none
def znS(O:Orc)(b c d:DV)(a:List DV)(_j:List OC):Option PX:=za (zg .lss (zy a 0) b) fun e=>ifB e (za (uh 1 c (zy a 0)) fun f=>b1 (zkO O d [S1 (atD f 0)]) fun g=>ifB g (some (.ret,[zy a 0],[])) (za (zg .add (zy a 0) (I6 1)) fun h=>some (.normal,[h],[]))) (some (.exit 0,[],[]))
def P90(O:Orc)(a c:DV):Option DA:=za (xl a) fun d=>xa (z6 (znS O d a c) [I6 0] []) (fun e _b _f=>bif Nat.beq e 0 then (some (S1 (I6 (-1)))) else(none)) (fun b _f=>some (S1 (zy b 0)))
theorem p90(O:Orc)(a0 a1:DV):pF O zyC 90 [S1 a0,S1 a1]=P90 O a0 a1:=by kernel_rfl
def P91(O:Orc)(c a b:DV):Option DA:=b1 (O 108 [S1 c,SA [a,b]]) fun d=>za (zg .geq d (I6 0)) fun e=>some (S1 e)
theorem p91(O:Orc)(a0 a b:DV):pF O an0 91 [S1 a0,SA [a,b]]=P91 O a0 a b:=by kernel_rfl
def zvD:Nat->Option LA:=fun i=>match i with|0=>some ⟨[.slot 8],[],[],[],[],[],[.slot 4],[],[]⟩|_=>none
def zgt(e f a b:DV)(c:List DV)(_k:List OC):Option PX:=za (zg .lss (zy c 0) e) fun g=>ifB g (za (uh 2 f (zy c 0)) fun d=>za (zn9 [1,1] [a,b] [atD d 0,atD d 1]) fun h=>ifB (.bool h) (some (.ret,[zy c 0],[])) (za (zg .add (zy c 0) (I6 1)) fun j=>some (.normal,[j],[]))) (some (.exit 0,[],[]))
def zxW(_O:Orc)(c a b:DV):Option DA:=za (xl c) fun e=>xa (z6 (zgt e c a b) [I6 0] []) (fun f _d _g=>bif Nat.beq f 0 then (some (S1 (I6 (-1)))) else(none)) (fun d _g=>some (S1 (zy d 0)))
theorem zy3(O:Orc)(a0 a b:DV):pF O zvD 108 [S1 a0,SA [a,b]]=zxW O a0 a b:=by kernel_rfl
def anT(g:Nat):Nat->Option LA:=match g with
 |9=>an9
 |10=>zyV
 |11=>zyU
 |12=>zyT
 |13=>zyS
 |16=>zyR
 |21=>zyQ
 |22=>zyP
 |23=>zyO
 |24=>zyN
 |27=>zyM
 |28=>zyL
 |29=>zyK
 |39=>zyJ
 |46=>zyI
 |69=>zyH
 |70=>zyG
 |71=>zyF
 |87=>zyE
 |88=>zyD
 |90=>zyC
 |108=>zvD
 |_=>an0
def zyA(g:Nat):Nat->List PA->Nat->Nat->Option LA:=match g with
 |_=>zyB
end Go.Proofs.Tryz.Kn
end
section
namespace Go.Proofs.Tryz.Kn
open Go Go.CE Go.PE
theorem zt6{sums:List CE.Sum}:zs1 zn5 redI (fun n=>zJ (zH prog) (cFs (yL prog)) sums redI.s n):=by intro N g g' l l' vs e;cases e
end Go.Proofs.Tryz.Kn
end
noncomputable section
namespace Go.Proofs.Tryz.Kn
open Go Go.CE Go.PE
def zsl:List CE.Sum:=[kSum36]
theorem zpp:∀s∈zsl,ke Tryz.prog s:=by
 intro s hs;simp only[zsl,Yzv,Yzp,or_false]at hs;rcases hs with rfl
 .exact zmO
def bSums:List CE.Sum:=zsl++shSums
theorem zpT:∀s∈bSums,ke Tryz.prog s:=zpQ zpp zlp
def bIds:List Nat:=[5,104,105,106,107]
theorem znI:bSums.all (fun s=>bIds.any (Nat.beq s.g))=true:=by kernel_rfl
theorem zcE{g:Nat}(h:bIds.any (Nat.beq g)=false):∀s∈bSums,Nat.beq g s.g=false:=by
 intro s hs;have h1:=YzI.1 znI s hs;cases hb:Nat.beq g s.g with
 |false=>rfl
 |true=>rw[<-Lz1 hb,h]at h1;cases h1
theorem zkN{g:Nat}(h:bIds.any (Nat.beq g)=false):bSums.all (fun s=>!Nat.beq g s.g)=true:=
 YzI.2 fun s hs=>by rw[zcE h s hs];rfl
def B:Orc:=zs9 bIds bSums
theorem zvJ{g:Nat}(h:bIds.any (Nat.beq g)=false)(args:List DA):B g args=none:=by unfold B zs9;rw[h];rfl
theorem zuV{g:Nat}(h:([104,105,106,107]:List Nat).any (Nat.beq g)=true):bIds.any (Nat.beq g)=true:=by obtain⟨n,hn,e⟩:=List.any_eq_true.1 h;refine List.any_eq_true.2 ⟨n,?_,e⟩;simp only[bIds,Yzv,Yzp,or_false]at hn ⊢;omega
theorem zzM{g:Nat}(h:([104,105,106,107]:List Nat).any (Nat.beq g)=true)(args:List DA):B g args=zs9 bIds bSums g args:=by rfl
def D(k:Nat):Orc:=deep prog bSums B anT zn5 zyA redI 5 k
theorem dF{k g:Nat}{args:List DA}{x:Option DA}(h:bIds.any (Nat.beq g)=false)(hr:(redI.s g).isNone=true)(e:zte prog (D k) zn5 (inl prog (D k) zn5 (zyA g) redI 5) (anT g) g args=x):D (k+1) g args=x:=(znm (zvJ h _) (zkN h) hr).trans e
theorem zot:∀g,zn5 g=true->∀s∈bSums,Nat.beq g s.g=false:=by
 intro g hg;refine zcE ?_;unfold zn5 at hg;split at hg
 .rfl
 .cases hg
theorem zqX:∀g,zn5 g=true->Nat.ble zkM g=false:=by
 intro g hg;unfold zn5 at hg;split at hg
 .rfl
 .cases hg
theorem zzK(k:Nat):uW (D k) (fun n=>zJ (zH prog) (cFs (yL prog)) bSums redI.s n):=zhG zt6 zot zqX (zq0 (by kernel_rfl)) k
theorem zq2:∀g t,redI.s g=some t->zpY prog g t:=by intro g t e;cases e
theorem D5(k:Nat):D k 5 []=some (S1 (.bool true)):=zfZ (by kernel_rfl)
theorem D4(k:Nat)(a b c d f h j m r s w y z aa ab ac ad ae af ag ah aj ak am an:DV):D (k+1) 4 [SA [a,b,c,d,f,h,j,m,r,s,w,y],SA [z,aa],SA [ab,ac,ad,ae,af,ag,ah,aj,ak,am,an]]=P4 (D k) a b c d f h j m r s w y z aa ab ac ad ae af ag ah aj ak am an:=dF rfl rfl (p4 ..)
theorem D7(k:Nat)(a b c d f h j m r s w:DV):D (k+1) 7 [SA [a,b,c,d,f,h,j,m,r,s,w]]=P7 (D k) a b c d f h j m r s w:=dF rfl rfl (p7 ..)
theorem D8(k:Nat)(a b c d f h j m r s w y:DV):D (k+1) 8 [SA [a,b,c,d,f,h,j,m,r,s,w,y]]=P8 (D k) a b c d f h j m r s w y:=dF rfl rfl (p8 ..)
theorem D9(k:Nat)(a b c d f h:DV):D (k+1) 9 [SA [a,b,c,d],SA [f,h]]=P9 (D k) a b c d f h:=dF rfl rfl (p9 ..)
theorem D10(k:Nat)(a b c d f h j m r s w y:DV):D (k+1) 10 [SA [a,b,c,d,f,h,j,m,r,s,w,y]]=P10 (D k) a b c d f h j m r s w y:=dF rfl rfl (p10 ..)
theorem D11(k:Nat)(a b c d:DV):D (k+1) 11 [SA [a,b,c,d]]=P11 (D k) a b c d:=dF rfl rfl (p11 ..)
theorem D12(k:Nat)(a b c d f h j:DV):D (k+1) 12 [SA [a,b,c,d],SA [f,h,j]]=P12 (D k) a b c d f h j:=dF rfl rfl (p12 ..)
theorem D13(k:Nat)(a b c d:DV):D (k+1) 13 [SA [a,b,c,d]]=P13 (D k) a b c d:=dF rfl rfl (p13 ..)
theorem D14(k:Nat)(a b c d f h j m r s w:DV):D (k+1) 14 [SA [a,b,c,d,f,h,j,m,r,s,w]]=P14 (D k) a b c d f h j m r s w:=dF rfl rfl (p14 ..)
theorem D15(k:Nat)(a b c d f h j m r s w a1:DV):D (k+1) 15 [SA [a,b,c,d,f,h,j,m,r,s,w],S1 a1]=P15 (D k) a b c d f h j m r s w a1:=dF rfl rfl (p15 ..)
theorem D16(k:Nat)(a b c d f h j m r s w a1 a2:DV):D (k+1) 16 [SA [a,b,c,d,f,h,j,m,r,s,w],S1 a1,S1 a2]=P16 (D k) a b c d f h j m r s w a1 a2:=dF rfl rfl (p16 ..)
theorem D17(k:Nat)(a b c d f h j m r s w y z aa:DV):D (k+1) 17 [SA [a,b,c,d,f,h,j,m,r,s,w],SA [y,z,aa]]=P17 (D k) a b c d f h j m r s w y z aa:=dF rfl rfl (p17 ..)
theorem D21(k:Nat)(a b c:DV):D (k+1) 21 [SA [a,b,c]]=P21 (D k) a b c:=dF rfl rfl (p21 ..)
theorem D22(k:Nat)(a b c:DV):D (k+1) 22 [SA [a,b,c]]=P22 (D k) a b c:=dF rfl rfl (p22 ..)
theorem D23(k:Nat)(a b c d f h j m r:DV):D (k+1) 23 [SA [a,b,c,d],SA [f,h,j,m,r]]=P23 (D k) a b c d f h j m r:=dF rfl rfl (p23 ..)
theorem D24(k:Nat)(a0:DV):D (k+1) 24 [S1 a0]=P24 (D k) a0:=dF rfl rfl (p24 ..)
theorem D25(k:Nat)(a b c d f h:DV):D (k+1) 25 [SA [a,b,c,d,f,h]]=P25 (D k) a b c d f h:=dF rfl rfl (p25 ..)
theorem D27(k:Nat)(a b c d f h j m r:DV):D (k+1) 27 [SA [a,b,c,d],SA [f,h,j,m,r]]=P27 (D k) a b c d f h j m r:=dF rfl rfl (p27 ..)
theorem D28(k:Nat)(a0 a1:DV):D (k+1) 28 [S1 a0,S1 a1]=P28 (D k) a0 a1:=dF rfl rfl (p28 ..)
theorem D29(k:Nat)(a b c d f h j m r s w a1:DV):D (k+1) 29 [SA [a,b,c,d,f,h,j,m,r,s,w],S1 a1]=P29 (D k) a b c d f h j m r s w a1:=dF rfl rfl (p29 ..)
theorem D39(k:Nat)(a b c d f h j m r a1:DV):D (k+1) 39 [SA [a,b,c,d,f,h,j,m,r],S1 a1]=P39 (D k) a b c d f h j m r a1:=dF rfl rfl (p39 ..)
theorem D40(k:Nat)(a0 a b c d f h a3:DV):D (k+1) 40 [S1 a0,SA [a,b],SA [c,d,f,h],S1 a3]=P40 (D k) a0 a b c d f h a3:=dF rfl rfl (p40 ..)
theorem D41(k:Nat)(a0:DV):D (k+1) 41 [S1 a0]=P41 (D k) a0:=dF rfl rfl (p41 ..)
theorem D42(k:Nat)(a b:DV):D (k+1) 42 [SA [a,b]]=P42 (D k) a b:=dF rfl rfl (p42 ..)
theorem D43(k:Nat)(a0:DV):D (k+1) 43 [S1 a0]=P43 (D k) a0:=dF rfl rfl (p43 ..)
theorem D44(k:Nat)(a0:DV):D (k+1) 44 [S1 a0]=P44 (D k) a0:=dF rfl rfl (p44 ..)
theorem D45(k:Nat)(a b:DV):D (k+1) 45 [SA [a,b]]=P45 (D k) a b:=dF rfl rfl (p45 ..)
theorem D46(k:Nat)(a b c d f h j:DV):D (k+1) 46 [SA [a,b,c],SA [d,f,h,j]]=P46 (D k) a b c d f h j:=dF rfl rfl (p46 ..)
theorem D47(k:Nat)(a0 a1:DV):D (k+1) 47 [S1 a0,S1 a1]=P47 (D k) a0 a1:=dF rfl rfl (p47 ..)
theorem D48(k:Nat)(a b c d f h j m r s:DV):D (k+1) 48 [SA [a,b,c,d,f],S1 (.fp [h,j,m,r,s] 0)]=P48 (D k) a b c d f h j m r s:=dF rfl rfl (p48 ..)
theorem D63(k:Nat)(a0:DV):D (k+1) 63 [S1 a0]=P63 (D k) a0:=dF rfl rfl (p63 ..)
theorem D64(k:Nat)(a0:DV):D (k+1) 64 [S1 a0]=P64 (D k) a0:=dF rfl rfl (p64 ..)
theorem D65(k:Nat)(a b c d:DV):D (k+1) 65 [SA [a,b],SA [c,d]]=P65 (D k) a b c d:=dF rfl rfl (p65 ..)
theorem D66(k:Nat)(a b:DV):D (k+1) 66 [SA [a,b]]=P66 (D k) a b:=dF rfl rfl (p66 ..)
theorem D67(k:Nat)(a0 a1:DV):D (k+1) 67 [S1 a0,S1 a1]=P67 (D k) a0 a1:=dF rfl rfl (p67 ..)
theorem D68(k:Nat)(a0:DV):D (k+1) 68 [S1 a0]=P68 (D k) a0:=dF rfl rfl (p68 ..)
theorem D69(k:Nat)(a b c:DV):D (k+1) 69 [SA [a,b,c]]=P69 (D k) a b c:=dF rfl rfl (p69 ..)
theorem D70(k:Nat)(a b c a1:DV):D (k+1) 70 [SA [a,b,c],S1 a1]=P70 (D k) a b c a1:=dF rfl rfl (p70 ..)
theorem D71(k:Nat)(a0 a1:DV):D (k+1) 71 [S1 a0,S1 a1]=P71 (D k) a0 a1:=dF rfl rfl (p71 ..)
theorem D86(k:Nat)(a b c d:DV):D (k+1) 86 [SA [a,b],SA [c,d]]=P86 (D k) a b c d:=dF rfl rfl (p86 ..)
theorem D87(k:Nat)(a b c d:DV):D (k+1) 87 [SA [a,b],SA [c,d]]=P87 (D k) a b c d:=dF rfl rfl (p87 ..)
theorem D88(k:Nat)(a0 a1:DV):D (k+1) 88 [S1 a0,S1 a1]=P88 (D k) a0 a1:=dF rfl rfl (p88 ..)
theorem D89(k:Nat)(a0:DV):D (k+1) 89 [S1 a0]=P89 (D k) a0:=dF rfl rfl (p89 ..)
theorem D90(k:Nat)(a0 a1:DV):D (k+1) 90 [S1 a0,S1 a1]=P90 (D k) a0 a1:=dF rfl rfl (p90 ..)
theorem D91(k:Nat)(a0 a b:DV):D (k+1) 91 [S1 a0,SA [a,b]]=P91 (D k) a0 a b:=dF rfl rfl (p91 ..)
theorem zzL(k:Nat)(a0 a b:DV):D (k+1) 108 [S1 a0,SA [a,b]]=zxW (D k) a0 a b:=dF rfl rfl (zy3 ..)
end Go.Proofs.Tryz.Kn
end
section
namespace Go.Proofs.Tryz.Kn
open Go Go.CE Go.PE
theorem zjx:∀(l:List UInt8) (i:Nat),zhS l i=(l[i]?).map fun c=>U8 (c.toNat:Int)
 | [],i=>by simp[zhS]
 |c::l,0=>rfl
 |c::l,i+1=>by show zhS l i=_;rw[zjx l i];simp
theorem zfu(s:ByteArray)(k:IntKind)(i:Nat):zaJ (.str s) (.int k (i:Int))=(s.data.toList[i]?).map fun c=>U8 (c.toNat:Int):=zjx _ _
theorem zdU(s:ByteArray):s.size=s.data.toList.length:=(Array.length_toList (xs:=s.data)).symm
theorem zoN(a b:ByteArray):zgv .eql (.str a) (.str b)=some (.bool (a.data.toList==b.data.toList)):=rfl
def zb1(n:Int):Bool:=(decide (65<=n)&&decide (n<=90))||(decide (97<=n)&&decide (n<=122))
theorem t41(k:Nat)(n:Int):D (k+1) 41 [S1 (U8 n)]=some (S1 (Bo (zb1 n))):=by rw[D41];unfold P41 zb1;by_cases h1:65<=n<;>by_cases h2:n<=90<;>by_cases h3:97<=n<;>by_cases h4:n<=122<;>simp[h1,h2,h3,h4]
def zkJ(n:Int):Bool:=zb1 n||(decide (48<=n)&&decide (n<=57))||decide (n=95)
def isName(s:ByteArray):Bool:=
 match s.data.toList with
 | []=>false
 |c::l=>decide (l.length<=31)&&zb1 (c.toNat:Int)&&l.all fun c=>zkJ (c.toNat:Int)
theorem l24(k:Nat)(s:ByteArray)(hs:s.data.toList.length<=1000):∀(r:List UInt8) (i:Nat),s.data.toList.drop i=r->
  z6 (znY (D (k+1)) (.str s)) [I6 (i:Int)] []=some (if r.all (fun c=>zkJ (c.toNat:Int)) then(.exit 0,[],[]) else(.ret,[Bo false],[])):=by
 intro r
 induction r with
 |nil=>grind[zz,yz,znY,zK,zbJ,zb,zr,zdU,vE,zu]
 |cons c r ih=>
  intro i h;have h1:=y7 h;have h2:(i:Int)<(s.data.toList.length:Int):=by omega
  have ea:zg .add (I6 (i:Int)) (I6 1)=some (I6 ((i+1:Nat):Int)):=yW;have ix:zaJ (.str s) (I6 (i:Int))=some (U8 (c.toNat:Int)):=by rw[zfu,xh h];rfl
  have body:znY (D (k+1)) (.str s) [I6 (i:Int)] []=some (if zkJ (c.toNat:Int) then(.normal,[I6 ((i+1:Nat):Int)],[]) else(.ret,[Bo false],[])):=by
   simp only[znY,zK,zbJ,zb,zr,zu,zdU,zaO h1,if_true,ix,t41,zV,wb,ea,yC,yd]
   grind[zkJ]
  cases hc:zkJ (c.toNat:Int) with
  |true=>rw[hc]at body;rw[zW body,ih (i+1) (yl h)];simp[hc]
  |false=>grind[zC]
theorem t24(k:Nat)(s:ByteArray):D (k+2) 24 [S1 (St s)]=some (S1 (Bo (isName s))):=by
 rw[D24];unfold P24 isName;simp only[zoN,zb,zu,zbJ,yd,zdU];cases hl:s.data.toList with
 |nil=>rfl
 |cons c l=>
  have ix:zaJ (.str s) (I6 0)=some (U8 (c.toNat:Int)):=by grind[zfu]
  simp only[ix,zb,t41,zV,wb,zu];rw[show ((c::l:List UInt8)==(ByteArray.mk #[]).data.toList)=false from rfl];by_cases h1:l.length<=31
  .have h2:¬(32<((c::l).length:Int)):=by grind
   simp only[h2,h1,decide_true,decide_false,Yyc,Yzq,if_false];cases zb1 (c.toNat:Int) with
   |false=>rfl
   |true=>have:=l24 k s (by grind) l 1 (by grind);simp only[Bool.not_true,Yzq,if_false,Yyc];rw[show (I6 1:DV)=I6 ((1:Nat):Int) from rfl,this];cases l.all fun c=>zkJ (c.toNat:Int)<;>rfl
  .grind
def right(a b:Int):Int:=if a<0 then 3 else if 127<b then 3 else if b<a then 23 else 0
theorem t45(k:Nat)(a b:Int):D (k+1) 45 [SA [I6 a,I6 b]]=some (S1 (I6 (right a b))):=by rw[D45];unfold P45 right;by_cases h1:a<0<;>by_cases h2:127<b<;>by_cases h3:b<a<;>simp[h1,h2,h3]
theorem l88(_O:Orc):∀(b a:Nat),z6 (zp2) [U64 (b:Int),U64 (a:Int)] []=some (.exit 0,[U64 ((Nat.gcd b a:Nat):Int)],[]):=by
 intro b
 induction b using Nat.strongRecOn with
 |ind b ih=>
  intro a;by_cases hb:0<b
  .have hz:(b:Int)≠0:=by omega
   have h0:(0:Int)<(b:Int):=by omega
   rw[zW (L':=[U64 ((a % b:Nat):Int),U64 (b:Int)]) (M':=[]) (by simp only[zp2,zK,xI,yd,zb,zu,zbd _ _ _ hz,h0,decide_true,if_true];rfl),ih (a % b) (Yzt _ hb) b,<-Nat.gcd_rec]
  .have:b=0:=by omega
   subst this;exact zz (by simp[zp2])
theorem t88(k:Nat)(a b:Nat):D (k+1) 88 [S1 (U64 (a:Int)),S1 (U64 (b:Int))]=some (S1 (U64 ((Nat.gcd b a:Nat):Int))):=by rw[D88];unfold P88;rw[l88 B];rfl
theorem zf0{k:IntKind}{n:Nat}(h:n<=18446744073709551615):zZ .u64 (.int k (n:Int))=some (U64 (n:Int)):=by
 show some (DV.int .u64 (bif Nat.ble n 18446744073709551615 then .ofNat n else IntKind.wrap .u64 (.ofNat n)))=_
 grind[Yze]
theorem t89(k:Nat){a:Int}(h1:-1000000<=a)(h2:a<=1000000):D (k+1) 89 [S1 (I6 a)]=some (S1 (U64 (a.natAbs:Int))):=by
 rw[D89];unfold P89;by_cases h:a<0
 .obtain⟨n,rfl⟩:∃n:Nat,a=-(n:Int):=⟨a.natAbs,by omega⟩;have e1:zZ .u64 (I6 (-(n:Int)))=some (U64 (18446744073709551616-(n:Int))):=by
   show some (DV.int .u64 (xZ .u64 (-(n:Int))))=_
   grind[zqL]
  have e2:xZ .u64 (-(18446744073709551616-(n:Int)))=(n:Int):=by grind[zqL]
  simp_all
 .obtain⟨n,rfl⟩:∃n:Nat,a=(n:Int):=⟨a.natAbs,by omega⟩;simp only[zr,zb,zu,h,decide_false,Yzq,if_false,zf0 (show n<=18446744073709551615 by omega)];simp
def zcc(n d:Int):Int:=if d<=0 then 2 else if 1000000<d then 2 else if n < -1000000 then 2 else if 1000000<n then 2 else bif Nat.gcd d.toNat n.natAbs==1 then 0 else 2
theorem t66(k:Nat)(n d:Int):D (k+2) 66 [SA [I6 n,I6 d]]=some (S1 (I6 (zcc n d))):=by
 rw[D66];unfold P66 zcc;simp only[qo,yd,zr,zb,zu,YzL];by_cases h1:d<=0
 .grind
 by_cases h2:1000000<d
 .grind
 by_cases h3:n < -1000000
 .grind
 by_cases h4:1000000<n
 .grind
 obtain⟨m,rfl⟩:∃m:Nat,d=(m:Int):=⟨d.toNat,by omega⟩;simp only[h1,h2,h3,h4,if_false];rw[t89 k (by omega) (by omega)]
 grind[zV,zf0,zb,t88,yC,zu]
def uM(n d:Int):Int:=if zcc n d≠0 then 2 else if n<=0 then 3 else if 128*d<n then 3 else if 128<d then 4 else 0
theorem t42(k:Nat)(n d:Int):D (k+3) 42 [SA [I6 n,I6 d]]=some (S1 (I6 (uM n d))):=by
 rw[D42];unfold P42 uM;rw[t66];simp only[zV,yC,zb,zu];by_cases h:zcc n d=0
 .have hd:0<d/\d<=1000000:=by
   grind[zcc]
  simp only[h,qo,zb,zu,zg7 (show (-9223372036854775808:Int)<=128*d by omega) (show 128*d<=9223372036854775807 by omega),yd,YzL]
  grind
 .simp[h]
theorem t43(k:Nat)(n:Int):D (k+1) 43 [S1 (I6 n)]=some (S1 (Bo (decide (-256<=n)&&decide (n<=256)))):=by rw[D43];unfold P43;by_cases h1:-256<=n<;>by_cases h2:n<=256<;>simp[h1,h2]
def wL(n:Int):Bool:=decide (n<0)||decide (1000000<n)
theorem t68(k:Nat)(n:Int):D (k+1) 68 [S1 (I6 n)]=some (S1 (Bo (wL n))):=by rw[D68];unfold P68 wL;by_cases h1:n<0<;>by_cases h2:1000000<n<;>simp[h1,h2]
theorem zvC(O:Orc)(g:Nat)(ds:List DA):zkO O (.fn g []) ds=O g ds:=by simp[zkO]
def ur{α:Type}(p:α->Bool):List α->Nat->Option Nat
 | [],_=>none
 |x::l,i=>if p x then some i else ur p l (i+1)
theorem vV{α:Type}(p:α->Bool):∀(l:List α) (i:Nat),(ur p l i).isSome=l.any p
 | [],_=>rfl
 |x::l,i=>by
  simp only[ur,List.any_cons];cases h:p x
  .simp[vV p l (i+1)]
  .simp
def found:Option Nat->PX
 |some i=>(.ret,[I6 (i:Int)],[])
 |none=>(.exit 0,[],[])
abbrev enW(n:Int):List DV:=[I6 n]
theorem l90(k:Nat)(w:Sl Int)(hw:w.els.length<=9223372036854775807):∀(r:List Int) (i:Nat),w.els.drop i=r->
  z6 (znS (D (k+1)) (I6 (w.els.length:Int)) (enL 1 enW w) (.fn 68 [])) [I6 (i:Int)] []=some (found (ur wL r i)):=by
 intro r
 induction r with
 |nil=>
  intro i h;refine zz ?_
  grind[znS,zK,zr,zb,vE,yz,zu]
 |cons x r ih=>
  intro i h;have h1:=y7 h;have ea:zg .add (I6 (i:Int)) (I6 1)=some (I6 ((i+1:Nat):Int)):=yW;have body:znS (D (k+1)) (I6 (w.els.length:Int)) (enL 1 enW w) (.fn 68 []) [I6 (i:Int)] []=some (if wL x then(.ret,[I6 (i:Int)],[]) else(.normal,[I6 ((i+1:Nat):Int)],[])):=by
   simp only[znS,zK,zr,zb,zaO h1,zu,if_true,yq h,xU,zvC,t68,zV,ea]
   grind
  grind[zC,ur,found,zW,yl]
theorem t90(k:Nat)(w:Sl Int)(hw:w.els.length<=9223372036854775807):D (k+2) 90 [S1 (enL 1 enW w),S1 (.fn 68 [])]=some (S1 (I6 (match ur wL w.els 0 with|some i=>(i:Int)|none=>-1))):=by rw[D90];unfold P90;have:=l90 k w hw w.els 0 rfl;simp only[zR,zb];rw[show (I6 0:DV)=I6 ((0:Nat):Int) from rfl,this];cases ur wL w.els 0<;>rfl
theorem t67(k:Nat)(w:Sl Int)(hw:w.els.length<=9223372036854775807):D (k+3) 67 [S1 (enL 1 enW w),S1 (.fn 68 [])]=some (S1 (Bo (w.els.any wL))):=by rw[D67];unfold P67;rw[t90 k w hw,<-vV wL w.els 0];cases ur wL w.els 0<;>simp_all
theorem t44(k:Nat)(w:Sl Int)(hw:w.els.length<=9223372036854775807):D (k+4) 44 [S1 (enL 1 enW w)]=some (S1 (I6 (if w.els.any wL then 3 else 0))):=by rw[D44];unfold P44;rw[t67 k w hw];cases w.els.any wL<;>rfl
structure Zk where
 name:ByteArray
 tone:ByteArray
 num:Int
 den:Int
 first:Int
 wind:Sl Int
def enR(r:Zk):List DV:=[St r.name,St r.tone,I6 r.num,I6 r.den,I6 r.first,enL 1 enW r.wind]
def x9(r:Zk):Int:=
 if !isName r.name then 8 else if !isName r.tone then 8 else if uM r.num r.den≠0 then uM r.num r.den
 else if !(decide (-256<=r.first)&&decide (r.first<=256)) then 3 else if r.wind.els.length=0 then 13 else if 128<r.wind.els.length then 4 else if r.wind.els.any wL then 3 else 0
theorem t25(k:Nat)(r:Zk)(hw:r.wind.els.length<=9223372036854775807):D (k+5) 25 [SA (enR r)]=some (S1 (I6 (x9 r))):=by
 unfold enR;rw[D25];unfold P25 x9;simp only[t24,zV,wb,zb,zu];cases isName r.name with
 |false=>rfl
 |true=>
  cases isName r.tone with
  |false=>rfl
  |true=>
   simp only[t42,t43,t44 k r.wind hw,zV,wb,zb,zu,yC,zR,we,yd,Bool.not_true,Yzq,if_false]
   grind
def uF:List Zk->Int
 | []=>0
 |r::l=>if x9 r≠0 then x9 r else uF l
def ki(r:Zk):Prop:=r.wind.els.length<=9223372036854775807
def zna(id:Nat)(e:Int):PX:=if e≠0 then(.ret,[I6 e],[]) else(.exit id,[],[])
theorem l69(k:Nat)(l:Sl Zk)(hl:l.els.length<=9223372036854775807)(hr:∀r∈l.els,ki r):∀(r:List Zk) (i:Nat),l.els.drop i=r->
  z6 (znV (D (k+5)) (I6 (l.els.length:Int)) (enL 6 enR l)) [I6 (i:Int)] []=some (zna 0 (uF r)):=by
 intro r
 induction r with
 |nil=>
  intro i h;refine zz ?_
  grind[znV,zK,zr,zb,vE,yz,zu]
 |cons x r ih=>
  intro i h;have h1:=y7 h;have ea:zg .add (I6 (i:Int)) (I6 1)=some (I6 ((i+1:Nat):Int)):=yW;have hx:ki x:=hr x (Lz3 (xh h));have c:D (k+5) 25 [SA [atD (enR x) 0,atD (enR x) 1,atD (enR x) 2,atD (enR x) 3,atD (enR x) 4,atD (enR x) 5]]=some (S1 (I6 (x9 x))):=t25 k x hx;have body:znV (D (k+5)) (I6 (l.els.length:Int)) (enL 6 enR l) [I6 (i:Int)] []=some (if x9 x≠0 then(.ret,[I6 (x9 x)],[]) else(.normal,[I6 ((i+1:Nat):Int)],[])):=by
   simp only[znV,zK,zr,zb,zaO h1,zu,if_true,yq h,c,zV,yC,ea]
   grind
  by_cases hc:x9 x=0
  .rw[Yzb (by omega)]at body;rw[zW body,ih (i+1) (yl h)];grind[uF]
  .rw[Yzd hc]at body;grind[zC,uF,zna]
structure Place where
 ranks:Sl Zk
 low:Int
 high:Int
def enP(x:Place):List DV:=[enL 6 enR x.ranks,I6 x.low,I6 x.high]
structure Place.ok (x:Place):Prop where
 len:x.ranks.els.length<=9223372036854775807
 ranks:∀r∈x.ranks.els,ki r
def qm(x:Place):Int:=if 60<x.ranks.els.length then 4 else if uF x.ranks.els≠0 then uF x.ranks.els else right x.low x.high
theorem t69(k:Nat)(x:Place)(hx:x.ok):D (k+6) 69 [SA (enP x)]=some (S1 (I6 (qm x))):=by
 unfold enP;rw[D69];unfold P69 qm;have:=l69 k x.ranks hx.len hx.ranks x.ranks.els 0 rfl;simp only[zR,zb,yd,zu];rw[show (I6 0:DV)=I6 ((0:Nat):Int) from rfl,this];by_cases h1:60<x.ranks.els.length
 .grind
 .have h2:¬((60:Int)<(x.ranks.els.length:Int)):=by omega
  simp only[h1,h2,decide_false,Yzq,if_false];unfold zna;by_cases h3:uF x.ranks.els=0<;>simp_all[t45]
structure Zq where
 rank:Int
 shift:Int
deriving DecidableEq
def enD(d:Zq):List DV:=[I6 d.rank,I6 d.shift]
theorem znf(a b:Zq):zn9 [1,1] [I6 a.rank,I6 a.shift] [I6 b.rank,I6 b.shift]=some (decide (a=b)):=by
 cases a with|mk r s=>
 cases b with|mk r' s'=>
 simp only[zn9,eqD,xj,Yza,ju];by_cases h1:r=r'
 .by_cases h2:s=s'
  .grind
  .have e2:(s==s')=false:=by grind
   simp[h1,h2,e2]
 .have e1:(r==r')=false:=by grind
  simp[h1,e1]
theorem zza(d:Zq)(l:Sl Zq)(hl:l.els.length<=9223372036854775807):∀(r:List Zq) (i:Nat),l.els.drop i=r->
  z6 (zgt (I6 (l.els.length:Int)) (enL 2 enD l) (I6 d.rank) (I6 d.shift)) [I6 (i:Int)] []=some (found (ur (fun x=>decide (d=x)) r i)):=by
 intro r
 induction r with
 |nil=>
  intro i h;refine zz ?_
  grind[zgt,zK,zr,zb,vE,yz,zu]
 |cons x r ih=>
  intro i h;have h1:=y7 h;have ea:zg .add (I6 (i:Int)) (I6 1)=some (I6 ((i+1:Nat):Int)):=yW;have eq:=znf d x;have body:zgt (I6 (l.els.length:Int)) (enL 2 enD l) (I6 d.rank) (I6 d.shift) [I6 (i:Int)] []=some (if d=x then(.ret,[I6 (i:Int)],[]) else(.normal,[I6 ((i+1:Nat):Int)],[])):=by
   simp only[zgt,zK,zr,zb,zaO h1,zu,if_true,yq h,enD,xU,vK,eq,ea]
   grind
  by_cases hc:d=x
  .rw[Yzd hc]at body;grind[zC,ur,found]
  .rw[Yzb hc]at body;grind[zW,yl,ur]
theorem zyY(k:Nat)(d:Zq)(l:Sl Zq)(hl:l.els.length<=9223372036854775807):D (k+1) 108 [S1 (enL 2 enD l),SA (enD d)]=some (S1 (I6 (match ur (fun x=>decide (d=x)) l.els 0 with|some i=>(i:Int)|none=>-1))):=by unfold enD;rw[zzL];unfold zxW;have:=zza d l hl l.els 0 rfl;unfold enD at this;simp only[zR,zb];rw[show (I6 0:DV)=I6 ((0:Nat):Int) from rfl,this];cases ur (fun x=>decide (d=x)) l.els 0<;>rfl
theorem t91(k:Nat)(d:Zq)(l:Sl Zq)(hl:l.els.length<=9223372036854775807):D (k+2) 91 [S1 (enL 2 enD l),SA (enD d)]=some (S1 (Bo (l.els.any fun x=>decide (d=x)))):=by have:=zyY k d l hl;unfold enD at this ⊢;rw[D91];unfold P91;rw[this,<-vV (fun x=>decide (d=x)) l.els 0];cases ur (fun x=>decide (d=x)) l.els 0<;>simp_all
end Go.Proofs.Tryz.Kn
end
section
namespace Go.Proofs.Tryz.Kn
open Go Go.CE Go.PE
theorem zxP(y:Nat):kX none 0 y=some 0:=rfl
theorem zvx{k:IntKind}{i d y:Nat}(h:i<=y):kX (some (.int k (i:Int))) d y=some i:=by
 show (bif Nat.ble i y then some i else none)=_
 grind[Yze]
theorem zbG{α:Type}{st i:Nat}{f:α->List DV}{l:List α}{k:IntKind}(h:i<=l.length):
  u1 st (enL st f (some l)) none (some (.int k (i:Int)))=some (enL st f (some (l.take i))):=by
 simp_all[u1,wW,zvx,zxP]
def zci(n:Nat):List Zq->List Zq->Int
 |_,[]=>0
 |p,d::r=>if d.rank<0 then 10 else if (n:Int)<=d.rank then 10 else if d.shift < -127 then 3 else if 127<d.shift then 3 else if p.any (fun x=>decide (d=x)) then 9 else zci n (p++[d]) r
def wl(n:Nat)(l:List Zq):Int:=if 8<l.length then 4 else zci n [] l
theorem l70(k:Nat)(rs:Sl Zk)(l:List Zq)(hl:l.length<=9223372036854775807):∀(r:List Zq) (i:Nat),l.drop i=r->
  z6 (znU (D (k+2)) (I6 (l.length:Int)) (enL 2 enD (some l)) (enL 6 enR rs)) [I6 (i:Int)] []=some (zna 0 (zci rs.els.length (l.take i) r)):=by
 intro r
 induction r with
 |nil=>
  intro i h;refine zz ?_
  grind[znU,zK,zr,zb,vE,yz,zu]
 |cons x r ih=>
  intro i h;have h1:=y7 h;have ea:zg .add (I6 (i:Int)) (I6 1)=some (I6 ((i+1:Nat):Int)):=yW;have ix:uh 2 (enL 2 enD (some l)) (I6 (i:Int))=some (enD x):=yq (v:=some l) h _;have sl:u1 2 (enL 2 enD (some l)) none (some (I6 (i:Int)))=some (enL 2 enD (some (l.take i))):=zbG (by omega);have c:=t91 k x (some (l.take i)) (by grind);simp only[enD]at c;have body:znU (D (k+2)) (I6 (l.length:Int)) (enL 2 enD (some l)) (enL 6 enR rs) [I6 (i:Int)] [] =
    some (if x.rank<0 then(.ret,[I6 10],[]) else if (rs.els.length:Int)<=x.rank then(.ret,[I6 10],[]) else if x.shift < -127 then(.ret,[I6 3],[]) else if 127<x.shift then(.ret,[I6 3],[]) else if (l.take i).any (fun y=>decide (x=y)) then(.ret,[I6 9],[]) else(.normal,[I6 ((i+1:Nat):Int)],[])):=by
   simp only[znU,zK,zr,zb,zaO h1,zu,if_true,ix,enD,xU,vK,zR,qp,yd,sl,c,zV,ea,YzL,Sl.els,Option.getD_some]
   grind
  have hn:l.take (i+1)=l.take i++[x]:=by grind
  unfold zci;by_cases a1:x.rank<0
  .rw[Yzd a1]at body ⊢;rw[zC body];rfl
  rw[Yzb a1]at body ⊢;by_cases a2:(rs.els.length:Int)<=x.rank
  .rw[Yzd a2]at body ⊢;rw[zC body];rfl
  rw[Yzb a2]at body ⊢;by_cases a3:x.shift < -127
  .rw[Yzd a3]at body ⊢;rw[zC body];rfl
  rw[Yzb a3]at body ⊢;by_cases a4:127<x.shift
  .rw[Yzd a4]at body ⊢;rw[zC body];rfl
  rw[Yzb a4]at body ⊢;by_cases a5:(l.take i).any (fun y=>decide (x=y))=true
  .rw[Yzd a5]at body ⊢;rw[zC body];rfl
  rw[Yzb a5]at body ⊢
  grind[zW,yl]
theorem t70(k:Nat)(x:Place)(l:Sl Zq)(hl:l.els.length<=9223372036854775807):D (k+3) 70 [SA (enP x),S1 (enL 2 enD l)]=some (S1 (I6 (wl x.ranks.els.length l.els))):=by
 unfold enP;rw[D70];unfold P70 wl;simp only[zR,zb,yd,zu];by_cases h1:8<l.els.length
 .grind
 .have h2:¬((8:Int)<(l.els.length:Int)):=by omega
  simp only[h1,h2,decide_false,Yzq,if_false];cases l with
  |none=>rw[zz (id:=0) (L':=[]) (M':=[]) (by rfl)];rfl
  |some l=>have:=l70 k x.ranks l hl l 0 rfl;rw[show (I6 0:DV)=I6 ((0:Nat):Int) from rfl,show Sl.els (some l:Sl Zq)=l from rfl,this,List.take_zero];unfold zna;by_cases h3:zci x.ranks.els.length [] l=0<;>simp_all
structure Seg where
 lo:Int
 hi:Int
 draws:Sl Zq
def enS(g:Seg):List DV:=[I6 g.lo,I6 g.hi,enL 2 enD g.draws]
def ztM(g:Seg):Prop:=g.draws.els.length<=9223372036854775807
structure Zr where
 name:ByteArray
 num:Int
 den:Int
 segs:Sl Seg
def yu(s:Zr):List DV:=[St s.name,I6 s.num,I6 s.den,enL 3 enS s.segs]
structure Zr.ok (s:Zr):Prop where
 len:s.segs.els.length<=9223372036854775807
 segs:∀g∈s.segs.els,ztM g
def leO(a:Int):Option Int->Bool
 |some t=>decide (a<=t)
 |none=>false
def zaI(l:List Seg):Nat->Option Int
 |0=>none
 |j+1=>(l[j]?).map Seg.hi
def zbw(x:Place):List Seg->Option Int->Int
 | [],_=>0
 |g::r,p=>
  if min g.lo g.hi<x.low then 23 else if x.high<max g.lo g.hi then 23 else if g.hi<g.lo then 6
  else if leO g.lo p then 6
  else if wl x.ranks.els.length g.draws.els≠0 then wl x.ranks.els.length g.draws.els else zbw x r (some g.hi)
theorem l46(k:Nat)(x:Place)(l:Sl Seg)(hl:l.els.length<=9223372036854775807)(hs:∀g∈l.els,ztM g):∀(r:List Seg) (i:Nat),l.els.drop i=r->
  z6 (zgj (D (k+3)) (I6 (l.els.length:Int)) (enL 3 enS l) (I6 x.low) (I6 x.high) (enL 6 enR x.ranks)) [I6 (i:Int)] []=some (zna 1 (zbw x r (zaI l.els i))):=by
 intro r
 induction r with
 |nil=>
  intro i h;refine zz ?_
  grind[zgj,zK,zr,zb,vE,yz,zu]
 |cons g r ih=>
  intro i h;have h1:=y7 h;have ea:zg .add (I6 (i:Int)) (I6 1)=some (I6 ((i+1:Nat):Int)):=yW;have c:=t70 k x g.draws (hs g (Lz3 (xh h)));simp only[enP]at c;have body:zgj (D (k+3)) (I6 (l.els.length:Int)) (enL 3 enS l) (I6 x.low) (I6 x.high) (enL 6 enR x.ranks) [I6 (i:Int)] [] =
    some (if min g.lo g.hi<x.low then(.ret,[I6 23],[]) else if x.high<max g.lo g.hi then(.ret,[I6 23],[]) else if g.hi<g.lo then(.ret,[I6 6],[])
     else if leO g.lo (zaI l.els i)=true then(.ret,[I6 6],[]) else if wl x.ranks.els.length g.draws.els≠0 then(.ret,[I6 (wl x.ranks.els.length g.draws.els)],[]) else(.normal,[I6 ((i+1:Nat):Int)],[])):=by
   simp only[zgj,zK,zr,zb,zaO h1,zu,if_true,yq h,enS,xU,vK,zub,zuc,yd,c,zV,ea,YzL,yC];have tail:(if (!(wl x.ranks.els.length g.draws.els==0))=true then some ((.ret,[I6 (wl x.ranks.els.length g.draws.els)],[]):PX) else some (.normal,[I6 ((i+1:Nat):Int)],[])) =
     some (if wl x.ranks.els.length g.draws.els≠0 then(.ret,[I6 (wl x.ranks.els.length g.draws.els)],[]) else(.normal,[I6 ((i+1:Nat):Int)],[])):=by
    grind
   rw[tail];cases i with
   |zero=>
    have:¬((0:Int)<((0:Nat):Int)):=by omega
    simp only[this,if_false,Yzq,zaI,leO]
    grind
   |succ j=>
    obtain⟨q,hq⟩:∃q,l.els[j]? = some q:=⟨_,Lz5 (by omega)⟩;have h2:(0:Int)<((j+1:Nat):Int):=by omega
    have es:zg .sub (I6 ((j+1:Nat):Int)) (I6 1)=some (I6 (((j+1:Nat):Int)-1)):=zk9;have e1:((j+1:Nat):Int)-1=(j:Int):=by omega
    rw[e1]at es;have ix:uh 3 (enL 3 enS l) (I6 (j:Int))=some (enS q):=by grind[zbb]
    simp only[zaI,hq,YzF,leO,h2,if_true,es,zb,ix,enS,vK,xU,qo,zu,YzL]
    grind
  have hp:zaI l.els (i+1)=some g.hi:=by simp only[zaI,xh h,YzF]
  unfold zbw;by_cases a1:min g.lo g.hi<x.low
  .rw[Yzd a1]at body ⊢;rw[zC body];rfl
  rw[Yzb a1]at body ⊢;by_cases a2:x.high<max g.lo g.hi
  .rw[Yzd a2]at body ⊢;rw[zC body];rfl
  rw[Yzb a2]at body ⊢;by_cases a3:g.hi<g.lo
  .rw[Yzd a3]at body ⊢;rw[zC body];rfl
  rw[Yzb a3]at body ⊢;by_cases a4:leO g.lo (zaI l.els i)=true
  .rw[Yzd a4]at body ⊢;rw[zC body];rfl
  rw[Yzb a4]at body ⊢;by_cases a5:wl x.ranks.els.length g.draws.els≠0
  .rw[Yzd a5]at body ⊢;grind[zC,zna]
  rw[Yzb a5]at body ⊢
  grind[zW,yl]
def uX(x:Place)(s:Zr):Int:=
 if qm x≠0 then qm x else if !isName s.name then 8 else if uM s.num s.den≠0 then uM s.num s.den
 else if s.segs.els.length=0 then 13 else if 12<s.segs.els.length then 4 else zbw x s.segs.els none
theorem t46(k:Nat)(x:Place)(s:Zr)(hx:x.ok)(hs:s.ok):D (k+7) 46 [SA (enP x),SA (yu s)]=some (S1 (I6 (uX x s))):=by
 have c1:=t69 k x hx;have l:=l46 (k+3) x s.segs hs.len hs.segs s.segs.els 0 rfl;unfold enP at c1 ⊢;unfold yu;rw[D46];unfold P46 uX;simp only[c1,t24,t42,zV,yC,zb,zu,wb,zR,we,yd];by_cases h1:qm x=0
 .simp only[h1];cases isName s.name with
  |false=>rfl
  |true=>
   by_cases h2:uM s.num s.den=0
   .simp only[h2];by_cases h3:s.segs.els.length=0
    .simp[h3]
    .have h4:¬((s.segs.els.length:Int)=0):=by omega
     by_cases h5:12<s.segs.els.length
     .grind
     .have h6:¬((12:Int)<(s.segs.els.length:Int)):=by omega
      rw[show (I6 0:DV)=I6 ((0:Nat):Int) from rfl,l,show zaI s.segs.els 0=none from rfl];unfold zna;by_cases h7:zbw x s.segs.els none=0
      .simp[h3,h5,h6,h7]
      .simp[h3,h5,h6,h7]
   grind
 grind
end Go.Proofs.Tryz.Kn
end
section
namespace Go.Proofs.Tryz.Kn
open Go Go.CE Go.PE
def enF(p:Int×Int):List DV:=[I6 p.1,I6 p.2]
def feetA:List (Int×Int):=[(8,1),(4,1),(16,1),(2,1),(8,3),(8,5),(4,3),(1,1),(32,1),(16,3),(16,5),(32,3),(8,7),(2,3),(1,2),(64,1)]
def feetB:List (Int×Int):=[(8,1),(4,1),(16,1),(8,3),(2,1),(8,5)]
def fA(n:Nat):Int×Int:=(feetA[n % 16]?).getD (8,1)
def fB(n:Nat):Int×Int:=(feetB[n % 6]?).getD (8,1)
theorem zqx(n:Nat):feetA[n % 16]? = some (fA n):=by unfold fA;rw[Lz5 (show n % 16<feetA.length by rw[show feetA.length=16 from rfl];omega)];rfl
theorem zqw(n:Nat):feetB[n % 6]? = some (fB n):=by unfold fB;rw[Lz5 (show n % 6<feetB.length by rw[show feetB.length=6 from rfl];omega)];rfl
theorem zu4(n:Nat):fA n∈feetA:=Lz3 (zqx n)
theorem zm4(n:Nat):fB n∈feetB:=Lz3 (zqw n)
theorem zxv:∀p∈feetA,uM p.1 p.2=0:=by trivial
theorem zxu:∀p∈feetB,uM p.1 p.2=0:=by trivial
theorem zzE:(shSums.all fun s=>match xS s.g s.args ⟨.z,.nil⟩ bSums with|some v=>eqA v s.res|none=>false)=true:=by kernel_rfl
theorem zx3{s:CE.Sum}(hs:s∈shSums){xs:List DA}{d:DA}(hg:([104,105,106,107]:List Nat).any (Nat.beq s.g)=true)(ha:avs xs=some s.args)(hd:ofA s.res=some d):B s.g xs=some d:=by grind[zzE,zjf,zzM,zs9,zuV]
theorem zn3(k:Nat){s:CE.Sum}(hs:s∈shSums){xs:List DA}{d:DA}(hg:([104,105,106,107]:List Nat).any (Nat.beq s.g)=true)(ha:avs xs=some s.args)(hd:ofA s.res=some d):D k s.g xs=some d:=zfZ (zx3 hs hg ha hd)
theorem zrK{n:Nat}(h:n∈pows):zac n∈shSums:=by grind[shSums]
theorem mem_of{n:Nat}(h:n∈pows):ofS n∈shSums:=by grind[shSums]
theorem zmz{x:Nat×Nat}(h:x∈dens){s:CE.Sum}(hs:s∈xg x):s∈shSums:=by grind[shSums]
theorem zrL{x:Nat×Nat×Nat}(h:x∈prs){s:CE.Sum}(hs:s∈yj x):s∈shSums:=by grind[shSums]
theorem zyv(k:Nat){n:Nat}(h:n∈pows):D k 105 [S1 (I6 (n:Int))]=some (S1 (St (dec n))):=zn3 k (mem_of h) rfl rfl rfl
theorem zyw(k:Nat){n:Nat}(h:n∈pows):D k 104 [S1 (St (dec n)),S1 (I6 24)]=some (.tup [.one (St (dec (n^24))),.one (I6 0)]):=zn3 k (zrK h) rfl rfl rfl
theorem zxK(k:Nat){x:Nat×Nat}(h:x∈dens):D k 106 [S1 (St (dec (x.1^24))),S1 (.str ⟨#[50]⟩)]=some (S1 (St (dec (lim x.1 0)))):=by
 have e:x.1^24*2=lim x.1 0:=by grind[lim]
 rw[<-e];exact zn3 k (zmz h (Yzk ..)) rfl rfl rfl
theorem zxI(k:Nat){x:Nat×Nat}(h:x∈dens){j:Nat}(hj:j<x.2):D k 106 [S1 (St (dec (lim x.1 j))),S1 (.str ⟨#[52]⟩)]=some (S1 (St (dec (lim x.1 (j+1))))):=by
 have e:lim x.1 j*4=lim x.1 (j+1):=by
  show 2*x.1^24*4^j*4=2*x.1^24*4^(j+1)
  grind
 rw[<-e];exact zn3 k (zmz h (Yzi _ (List.mem_map.2 ⟨j,List.mem_range.2 hj,rfl⟩))) rfl rfl rfl
theorem zyu(k:Nat){x:Nat×Nat×Nat}(h:x∈prs){j:Nat}(hj:j<=x.2.2):D k 107 [S1 (St (dec (x.1^24))),S1 (St (dec (lim x.2.1 j)))]=some (S1 (I6 (ztn (x.1^24) (lim x.2.1 j)))):=
 zn3 k (zrL h (List.mem_map.2 ⟨j,List.mem_range.2 (by omega),rfl⟩)) rfl rfl rfl
def upN:Nat->Nat->Nat->Int->Nat×Int
 |0,num,_,n=>(num,n)
 |f+1,num,den,n=>if num<den then upN f (num*2) den (n-12) else(num,n)
def dnN:Nat->Nat->Nat->Int->Nat×Int
 |0,_,den,n=>(den,n)
 |f+1,num,den,n=>if 2*den<=num then dnN f num (den*2) (n+12) else(den,n)
theorem zy6(den:Nat)(hd:den<=1000000):∀(f num:Nat) (n:Int),den<=(upN f num den n).1->-1000000<=n-12*(f:Int)->n<=1000000->
  z6 (zkR (I6 (den:Int))) [I6 (num:Int),I6 n] []=some (.exit 0,[I6 ((upN f num den n).1:Int),I6 (upN f num den n).2],[]):=by
 intro f
 induction f with
 |zero=>grind[zz,zkR,zK,xI,zr,zb,zu,upN]
 |succ f ih=>
  intro num n h h2 h3;unfold upN at h ⊢;by_cases hc:num<den
  .rw[Yzd hc]at h ⊢;have h1:decide ((num:Int)<(den:Int))=true:=zaO hc;have e1:zg .mul (I6 (num:Int)) (I6 2)=some (I6 ((num*2:Nat):Int)):=by
    grind[zg7]
   have e2:zg .sub (I6 n) (I6 12)=some (I6 (n-12)):=zk9;have body:zkR (I6 (den:Int)) [I6 (num:Int),I6 n] []=some (.normal,[I6 ((num*2:Nat):Int),I6 (n-12)],[]):=by simp_all[zkR]
   grind[zW]
  .rw[Yzb hc]
   grind[zz,zkR,zK,xI,zr,zb,zu]
theorem zy8(a:DV)(num:Nat)(hd:num<=1000000):∀(f den:Nat) (n:Int),num<2*(dnN f num den n).1->n+12*(f:Int)<=1000000->-1000000<=n->0<den->den<=1000000->
  z6 (zdH [I6 (num:Int),a]) [I6 (den:Int),I6 n] []=some (.exit 2,[I6 ((dnN f num den n).1:Int),I6 (dnN f num den n).2],[]):=by
 intro f
 induction f with
 |zero=>
  intro den n h _ _ _ h5;have h:num<2*den:=h;have e1:zg .mul (I6 2) (I6 (den:Int))=some (I6 ((2*den:Nat):Int)):=by grind[zg7]
  grind[zz,zdH,zK,xI,qp,zb,zu,dnN]
 |succ f ih=>
  intro den n h h2 h3 h4 h5;unfold dnN at h ⊢;have e1:zg .mul (I6 2) (I6 (den:Int))=some (I6 ((2*den:Nat):Int)):=by grind[zg7]
  by_cases hc:2*den<=num
  .rw[Yzd hc]at h ⊢;have h1:decide (((2*den:Nat):Int)<=(num:Int))=true:=decide_eq_true (by omega);have e3:zg .mul (I6 (den:Int)) (I6 2)=some (I6 ((den*2:Nat):Int)):=by
    grind[zg7]
   have e2:zg .add (I6 n) (I6 12)=some (I6 (n+12)):=yW;have body:zdH [I6 (num:Int),a] [I6 (den:Int),I6 n] []=some (.normal,[I6 ((den*2:Nat):Int),I6 (n+12)],[]):=by simp_all[zdH]
   grind[zW]
  .rw[Yzb hc]
   grind[zz,zdH,zK,xI,qp,zb,zu]
theorem zrl:(prs.all fun x=>(List.range x.2.2).all (fun j=>Nat.ble (Nat.succ (lim x.2.1 j)) (x.1^24))&&Nat.ble (x.1^24) (lim x.2.1 x.2.2))=true:=by kernel_rfl
theorem zlP:(prs.all fun x=>dens.any (fun y=>Nat.beq y.1 x.2.1&&Nat.ble x.2.2 y.2)&&pows.any (Nat.beq x.1)&&pows.any (Nat.beq x.2.1))=true:=by kernel_rfl
theorem ze5{n:Nat}{l:List Nat}(h:l.any (Nat.beq n)=true):n∈l:=by simp_all
theorem zy9(k:Nat)(x:Nat×Nat×Nat)(hx:x∈prs)(n:Int)(h1:-1000000<=n)(h2:n<=1000000)(hm:x.2.2<=100):∀(r j:Nat),j+r=x.2.2->
  z6 (zgi (D k) [.one (St (dec (x.1^24))),.one (I6 0)]) [St (dec (lim x.2.1 j)),I6 (n+(j:Int))] []=some (.exit 4,[I6 (n+(x.2.2:Int))],[]):=by
 have hc:=YzI.1 zrl x hx;have hdn:=YzI.1 zlP x hx;simp only[LzC]at hc hdn;obtain⟨y,hy,ey⟩:=List.any_eq_true.1 hdn.1.1;simp only[LzC]at ey;have ey1:y.1=x.2.1:=Lz1 ey.1;have ey2:=Lz4 ey.2;intro r
 induction r with
 |zero=>
  intro j hj;have hj:j=x.2.2:=by omega
  subst hj;have c:=zyu k hx (LzB _);have hle:=Lz4 hc.2;have hs:decide ((0:Int)<ztn (x.1^24) (lim x.2.1 x.2.2))=false:=by
   unfold ztn;rw[show Nat.ble (Nat.succ (lim x.2.1 x.2.2)) (x.1^24)=false from by cases hb:Nat.ble (Nat.succ (lim x.2.1 x.2.2)) (x.1^24) with|false=>rfl|true=>have:=Lz4 hb;omega]
   grind
  grind[zz,zgi,zK,xI,znk,zhE,zV,yd,zb,zu]
 |succ r ih=>
  intro j hj;have c:=zyu k hx (show j<=x.2.2 by omega);have m:=zxI k hy (show j<y.2 by omega);rw[ey1]at m;have hlt:=Lz4 (YzI.1 hc.1 j (List.mem_range.2 (by omega)));have hs:decide ((0:Int)<ztn (x.1^24) (lim x.2.1 j))=true:=by grind[ztn,Yze]
  have ea:zg .add (I6 (n+(j:Int))) (I6 1)=some (I6 (n+((j+1:Nat):Int))):=by rw[show n+((j+1:Nat):Int)=n+(j:Int)+1 by omega];exact yW
  have body:zgi (D k) [.one (St (dec (x.1^24))),.one (I6 0)] [St (dec (lim x.2.1 j)),I6 (n+(j:Int))] []=some (.normal,[St (dec (lim x.2.1 (j+1))),I6 (n+((j+1:Nat):Int))],[]):=by simp_all[zgi]
  grind[zW]
def zqs(f g:Int×Int):Nat:=(g.1*f.2).toNat
def zkE(f g:Int×Int):Nat:=(g.2*f.1).toNat
def shU(f g:Int×Int):Nat×Int:=upN 20 (zqs f g) (zkE f g) 0
def shD(f g:Int×Int):Nat×Int:=dnN 20 (shU f g).1 (zkE f g) (shU f g).2
def shM(f g:Int×Int):Nat:=((prs.find? fun x=>Nat.beq x.1 (shU f g).1&&Nat.beq x.2.1 (shD f g).1).map fun x=>x.2.2).getD 0
def shf(f g:Int×Int):Int:=(shD f g).2+(shM f g:Int)
def ztK(f g:Int×Int):Bool:=
 decide (0<=g.1*f.2)&&decide (0<g.2*f.1)&&Nat.ble (zkE f g) (shU f g).1&&Nat.ble (Nat.succ (shU f g).1) (2*(shD f g).1)&&(prs.any fun x=>Nat.beq x.1 (shU f g).1&&Nat.beq x.2.1 (shD f g).1&&Nat.beq x.2.2 (shM f g))
 && Nat.ble (zkE f g) 1000000&&Nat.ble (zqs f g) 1000000&&Nat.ble (shU f g).1 1000000&&Nat.ble (shM f g) 100&&decide (-1000<=(shU f g).2)&&decide ((shU f g).2<=1000)&&decide (-1000<=(shD f g).2)&&decide ((shD f g).2<=1000)&&decide (-100<=shf f g)&&decide (shf f g<=100)
theorem ztI:(feetB.all fun f=>feetA.all fun g=>ztK f g)=true:=by kernel_rfl
structure Zv (f g:Int×Int):Prop where
 a:0<=g.1*f.2
 b:0<g.2*f.1
 c:zkE f g<=(shU f g).1
 d:(shU f g).1<2*(shD f g).1
 e:∃x∈prs,x.1=(shU f g).1/\x.2.1=(shD f g).1/\x.2.2=shM f g
 f1:zkE f g<=1000000
 f2:zqs f g<=1000000
 f3:(shU f g).1<=1000000
 f4:shM f g<=100
 g1:-1000<=(shU f g).2
 g2:(shU f g).2<=1000
 g3:-1000<=(shD f g).2
 g4:(shD f g).2<=1000
 h1:-100<=shf f g
 h2:shf f g<=100
theorem zlo{f g:Int×Int}(hf:f∈feetB)(hg:g∈feetA):Zv f g:=by have h:=YzI.1 (YzI.1 ztI f hf) g hg;unfold ztK at h;simp only[LzC,YzL]at h;obtain⟨⟨⟨⟨⟨⟨⟨⟨⟨⟨⟨⟨⟨⟨a,b⟩,c⟩,d⟩,e⟩,f1⟩,f2⟩,f3⟩,f4⟩,g1⟩,g2⟩,g3⟩,g4⟩,h1⟩,h2⟩:=h;obtain⟨x,hx,hq⟩:=List.any_eq_true.1 e;simp only[LzC]at hq;exact⟨a,b,Lz4 c,Lz4 d,⟨x,hx,Lz1 hq.1.1,Lz1 hq.1.2,Lz1 hq.2⟩,Lz4 f1,Lz4 f2,Lz4 f3,Lz4 f4,g1,g2,g3,g4,h1,h2⟩
theorem ztG(f g:Int×Int)(hf:f∈feetB)(hg:g∈feetA):-100<=shf f g/\shf f g<=100:=⟨(zlo hf hg).h1,(zlo hf hg).h2⟩
theorem t87(k:Nat)(f g:Int×Int)(hf:f∈feetB)(hg:g∈feetA):D (k+1) 87 [SA (enF f),SA (enF g)]=some (S1 (I6 (shf f g))):=by
 have H:=zlo hf hg;obtain⟨x,hx,x1,x2,x3⟩:=H.e;have a1:g.1*f.2=((zqs f g:Nat):Int):=by unfold zqs;have:=H.a;omega
 have a2:g.2*f.1=((zkE f g:Nat):Int):=by unfold zkE;have:=H.b;omega
 have hb:=H.b;rw[a2]at hb;have b1:=H.f1;have b2:=H.f2;have b3:=H.f3;have b4:=H.f4;have c1:=H.g1;have c2:=H.g2;have c3:=H.g3;have c4:=H.g4
 have m1:zg .mul (I6 g.1) (I6 f.2)=some (I6 ((zqs f g:Nat):Int)):=by grind[zg7]
 have m2:zg .mul (I6 g.2) (I6 f.1)=some (I6 ((zkE f g:Nat):Int)):=by grind[zg7]
 have lu:=zy6 (zkE f g) b1 20 (zqs f g) 0 H.c (by omega) (by omega);have ld:=zy8 (I6 (shU f g).2) (shU f g).1 b3 20 (zkE f g) (shU f g).2 H.d (by omega) (by omega) (by omega) b1;have lc:=zy9 k x hx (shD f g).2 (by omega) (by omega) (by omega) x.2.2 0 (by omega);have hdn:=YzI.1 zlP x hx;simp only[LzC]at hdn;obtain⟨y,hy,ey⟩:=List.any_eq_true.1 hdn.1.1;simp only[LzC]at ey;have ey1:y.1=x.2.1:=Lz1 ey.1;have o1:=zyv k (ze5 hdn.1.2);have p1:=zyw k (ze5 hdn.1.2);have o2:=zyv k (ze5 hdn.2);have p2:=zyw k (ze5 hdn.2);have u0:=zxK k hy;rw[ey1]at u0;rw[x1]at o1 p1 lc;rw[x2]at o2 p2 u0 lc;rw[x3]at lc;rw[show (shD f g).2+((0:Nat):Int)=(shD f g).2 by omega]at lc;have hU:upN 20 (zqs f g) (zkE f g) 0=shU f g:=rfl;have hD:dnN 20 (shU f g).1 (zkE f g) (shU f g).2=shD f g:=rfl;rw[hU]at lu;rw[hD]at ld;unfold enF;rw[D87];unfold P87;have bt:∀{β:Type} (a b:DV) (K:List DS->Option β),bT [none,none] (some (.tup [.one a,.one b])) K=K [.one a,.one b]:=fun _ _ _=>rfl;simp only[m1,m2,zb];rw[lu];simp only[y3,Yzz,Yza,zK,xI];rw[ld];simp only[y3,Yzz,Yza,zK,xI,o1,o2,zV,p1,p2,bt,znk,zhE,u0];rw[lc];rfl
theorem t86(k:Nat)(f g:Int×Int)(hf:f∈feetB)(hg:g∈feetA):D (k+4) 86 [SA (enF f),SA (enF g)]=some (S1 (I6 0)):=by grind[t42,zxu,zxv,enF,D86,P86,zV,yC,zb,zu]
theorem t65(k:Nat)(f g:Int×Int)(hf:f∈feetB)(hg:g∈feetA):D (k+5) 65 [SA (enF f),SA (enF g)]=some (.tup [.one (I6 (shf f g)),.one (I6 0)]):=by
 have c1:=t86 k f g hf hg
 grind[t87,enF,D65,P65,zV,yC,zb,zu]
end Go.Proofs.Tryz.Kn
end
section
namespace Go.Proofs.Tryz.Kn
open Go Go.CE Go.PE
def eqB(a b:ByteArray):Bool:=a.data.toList==b.data.toList
def enN(s:ByteArray):List DV:=[St s,Bo true]
theorem znh(a b:ByteArray):zgz (.inl 2) (.one (St a)) (.one (St b))=some (eqB a b):=rfl
theorem jS(s:ByteArray):∀ns:List ByteArray,zeI (.inl 2) 1048576 (.one (St s)) (ns.map enN)=some (if ns.any (eqB s)=true then some (.one (Bo true)) else none)
 | []=>rfl
 |n::ns=>by
  have e:zgz (.inl 2) (.one (St s)) (kD 1048576 (enN n))=some (eqB s n):=rfl;have v:vD 1048576 (enN n)=.one (Bo true):=rfl;rw[Yzu,zeI,e,v,jS s ns,List.any_cons]
  grind
theorem qk(s:ByteArray):∀ns:List ByteArray,ns.any (eqB s)=false->zn7 (.inl 2) 1048576 (.one (St s)) [St s,Bo true] (ns.map enN)=some ((ns++[s]).map enN)
 | [],_=>rfl
 |n::ns,h=>by simp only[List.any_cons,Bool.or_eq_false_iff]at h;have e:zgz (.inl 2) (.one (St s)) (kD 1048576 (enN n))=some (eqB s n):=rfl;simp only[Yzu,zn7,e,h.1,qk s ns h.2];rfl
theorem zrS(b:Bool):dsO (lkD (.one (Bo false)) (if b=true then some (DS.one (Bo true)) else none))=Bo b:=by cases b<;>rfl
structure Cpl where
 name:ByteArray
 src:Int
 dst:Int
 shift:Int
 thr:Bool
def enC(c:Cpl):List DV:=[St c.name,I6 c.src,I6 c.dst,I6 c.shift,Bo c.thr]
def enK(k:Int×Int):List DV:=[I6 k.1,I6 k.2]
theorem t48(k:Nat)(x c:Cpl):D (k+1) 48 [SA (enC x),S1 (.fp (enC c) 0)]=some (S1 (Bo (eqB x.name c.name))):=by unfold enC;rw[D48];rfl
theorem l71(k:Nat)(c:Cpl)(l:Sl Cpl)(hl:l.els.length<=9223372036854775807):∀(r:List Cpl) (i:Nat),l.els.drop i=r->
  z6 (znT (D (k+1)) (I6 (l.els.length:Int)) (enL 5 enC l) (.fn 48 [enC c])) [I6 (i:Int)] []=some (found (ur (fun x=>eqB x.name c.name) r i)):=by
 intro r
 induction r with
 |nil=>
  intro i h;refine zz ?_
  grind[znT,zK,zr,zb,vE,yz,zu]
 |cons x r ih=>
  intro i h;have h1:=y7 h;have ea:zg .add (I6 (i:Int)) (I6 1)=some (I6 ((i+1:Nat):Int)):=yW;have cx:zkO (D (k+1)) (.fn 48 [enC c]) [SA [atD (enC x) 0,atD (enC x) 1,atD (enC x) 2,atD (enC x) 3,atD (enC x) 4]]=some (S1 (Bo (eqB x.name c.name))):=t48 k x c;have body:znT (D (k+1)) (I6 (l.els.length:Int)) (enL 5 enC l) (.fn 48 [enC c]) [I6 (i:Int)] []=some (if eqB x.name c.name then(.ret,[I6 (i:Int)],[]) else(.normal,[I6 ((i+1:Nat):Int)],[])):=by
   simp only[znT,zK,zr,zb,zaO h1,zu,if_true,yq h,cx,zV,ea]
   grind
  cases hc:eqB x.name c.name with
  |true=>grind[zC,ur,found]
  |false=>grind[zW,yl,ur]
theorem t47(k:Nat)(c:Cpl)(l:Sl Cpl)(hl:l.els.length<=9223372036854775807):D (k+3) 47 [S1 (enL 5 enC l),S1 (.fn 48 [enC c])]=some (S1 (Bo (l.els.any fun x=>eqB x.name c.name))):=by
 have e:D (k+2) 71 [S1 (enL 5 enC l),S1 (.fn 48 [enC c])]=some (S1 (I6 (match ur (fun x=>eqB x.name c.name) l.els 0 with|some i=>(i:Int)|none=>-1))):=by rw[D71];unfold P71;have:=l71 k c l hl l.els 0 rfl;simp only[zR,zb];rw[show (I6 0:DV)=I6 ((0:Nat):Int) from rfl,this];cases ur (fun x=>eqB x.name c.name) l.els 0<;>rfl
 rw[D47];unfold P47;rw[e,<-vV (fun x=>eqB x.name c.name) l.els 0];cases ur (fun x=>eqB x.name c.name) l.els 0<;>simp_all
def znn(n:Nat):List Cpl->List Cpl->Int
 |_,[]=>0
 |p,c::r=>
  if isName c.name=false then 8 else if p.any (fun x=>eqB x.name c.name)=true then 9 else if c.src<0 then 10 else if (n:Int)<=c.src then 10 else if c.dst<0 then 10 else if (n:Int)<=c.dst then 10
  else if c.shift < -127 then 3 else if 127<c.shift then 3 else if c.src=c.dst/\c.shift=0 then 7 else znn n (p++[c]) r
def zno(ks:List (Int×Int))(l:List Cpl):Int:=
 if 8<ks.length then 4 else if 40<l.length then 4 else if ks.any (fun k=>right k.1 k.2 != 0)=true then 23 else znn ks.length [] l
theorem l28(k:Nat)(ks:Sl (Int×Int))(l:List Cpl)(hl:l.length<=9223372036854775807):∀(r:List Cpl) (i:Nat),l.drop i=r->
  z6 (zgl (D (k+3)) (I6 (l.length:Int)) (enL 5 enC (some l)) (enL 2 enK ks)) [I6 (i:Int)] []=some (zna 2 (znn ks.els.length (l.take i) r)):=by
 intro r
 induction r with
 |nil=>
  intro i h;refine zz ?_
  grind[zgl,zK,zr,zb,vE,yz,zu]
 |cons x r ih=>
  intro i h;have h1:=y7 h;have ea:zg .add (I6 (i:Int)) (I6 1)=some (I6 ((i+1:Nat):Int)):=yW;have ix:uh 5 (enL 5 enC (some l)) (I6 (i:Int))=some (enC x):=yq (v:=some l) h _;have sl:u1 5 (enL 5 enC (some l)) none (some (I6 (i:Int)))=some (enL 5 enC (some (l.take i))):=zbG (by omega);have c:=t47 k x (some (l.take i)) (by grind);have cn:=t24 (k+1) x.name;simp only[enC,y9]at c;have body:zgl (D (k+3)) (I6 (l.length:Int)) (enL 5 enC (some l)) (enL 2 enK ks) [I6 (i:Int)] [] =
    some (if isName x.name=false then(.ret,[I6 8],[]) else if (l.take i).any (fun y=>eqB y.name x.name)=true then(.ret,[I6 9],[]) else if x.src<0 then(.ret,[I6 10],[]) else if (ks.els.length:Int)<=x.src then(.ret,[I6 10],[])
     else if x.dst<0 then(.ret,[I6 10],[]) else if (ks.els.length:Int)<=x.dst then(.ret,[I6 10],[]) else if x.shift < -127 then(.ret,[I6 3],[]) else if 127<x.shift then(.ret,[I6 3],[])
     else if x.src=x.dst/\x.shift=0 then(.ret,[I6 7],[]) else(.normal,[I6 ((i+1:Nat):Int)],[])):=by
   simp only[zgl,zK,zr,zb,zaO h1,zu,if_true,ix,enC,xU,vK,zR,qp,yd,we,sl,c,cn,zV,zxS,wb,ea,YzL];cases isName x.name<;>grind
  have hn:l.take (i+1)=l.take i++[x]:=by grind
  unfold znn;by_cases a0:isName x.name=false
  .rw[Yzd a0]at body ⊢;rw[zC body];rfl
  rw[Yzb a0]at body ⊢;by_cases a1:(l.take i).any (fun y=>eqB y.name x.name)=true
  .rw[Yzd a1]at body ⊢;rw[zC body];rfl
  rw[Yzb a1]at body ⊢;by_cases a2:x.src<0
  .rw[Yzd a2]at body ⊢;rw[zC body];rfl
  rw[Yzb a2]at body ⊢;by_cases a3:(ks.els.length:Int)<=x.src
  .rw[Yzd a3]at body ⊢;rw[zC body];rfl
  rw[Yzb a3]at body ⊢;by_cases a4:x.dst<0
  .rw[Yzd a4]at body ⊢;rw[zC body];rfl
  rw[Yzb a4]at body ⊢;by_cases a5:(ks.els.length:Int)<=x.dst
  .rw[Yzd a5]at body ⊢;rw[zC body];rfl
  rw[Yzb a5]at body ⊢;by_cases a6:x.shift < -127
  .rw[Yzd a6]at body ⊢;rw[zC body];rfl
  rw[Yzb a6]at body ⊢;by_cases a7:127<x.shift
  .rw[Yzd a7]at body ⊢;rw[zC body];rfl
  rw[Yzb a7]at body ⊢;by_cases a8:x.src=x.dst/\x.shift=0
  .rw[Yzd a8]at body ⊢;rw[zC body];rfl
  rw[Yzb a8]at body ⊢
  grind[zW,yl]
theorem zy7(k:Nat)(ks:Sl (Int×Int))(hl:ks.els.length<=9223372036854775807):∀(r:List (Int×Int)) (i:Nat),ks.els.drop i=r->
  z6 (znW (D (k+1)) (I6 (ks.els.length:Int)) (enL 2 enK ks)) [I6 (i:Int)] []=some (if r.any (fun k=>right k.1 k.2 != 0)=true then(.ret,[I6 23],[]) else(.exit 0,[],[])):=by
 intro r
 induction r with
 |nil=>grind[zz,znW,zK,zr,zb,vE,yz,zu]
 |cons x r ih=>
  intro i h;have h1:=y7 h;have ea:zg .add (I6 (i:Int)) (I6 1)=some (I6 ((i+1:Nat):Int)):=yW;have c:=t45 k x.1 x.2;have body:znW (D (k+1)) (I6 (ks.els.length:Int)) (enL 2 enK ks) [I6 (i:Int)] []=some (if right x.1 x.2=0 then(.normal,[I6 ((i+1:Nat):Int)],[]) else(.ret,[I6 23],[])):=by
   simp only[znW,zK,zr,zb,zaO h1,zu,if_true,yq h,enK,xU,vK,c,zV,yC,ea]
   grind
  by_cases hc:right x.1 x.2=0
  .rw[Yzd hc]at body;rw[zW body,ih (i+1) (yl h),List.any_cons,hc];rfl
  .rw[Yzb hc]at body;rw[zC body,Yzd (by simp[hc])]
theorem t28(k:Nat)(ks:Sl (Int×Int))(l:Sl Cpl)(hk:ks.els.length<=9223372036854775807)(hl:l.els.length<=9223372036854775807):D (k+4) 28 [S1 (enL 2 enK ks),S1 (enL 5 enC l)]=some (S1 (I6 (zno ks.els l.els))):=by
 rw[D28];unfold P28 zno;have ck:=zy7 (k+2) ks hk ks.els 0 rfl;simp only[zR,zb,yd,zu];rw[show (I6 0:DV)=I6 ((0:Nat):Int) from rfl,ck];by_cases h1:8<ks.els.length
 .grind
 have h2:¬((8:Int)<(ks.els.length:Int)):=by omega
 by_cases h3:40<l.els.length
 .grind
 have h4:¬((40:Int)<(l.els.length:Int)):=by omega
 simp only[h1,h2,h3,h4,decide_false,Yzq,if_false];by_cases h5:ks.els.any (fun k=>right k.1 k.2 != 0)=true
 .simp_all
 rw[Yzb h5,Yzb h5];simp only[y3,Yzz,Yza];cases l with
 |none=>rw[zz (id:=2) (L':=[]) (M':=[]) (by rfl)];rfl
 |some l=>have:=l28 k ks l hl l 0 rfl;rw[show Sl.els (some l:Sl Cpl)=l from rfl,this,List.take_zero];unfold zna;by_cases h6:znn ks.els.length [] l=0<;>simp[h6]
structure Zo where
 name:ByteArray
 pedal:Bool
 low:Int
 high:Int
 stops:Sl Zr
def enV(d:Zo):List DV:=[St d.name,Bo d.pedal,I6 d.low,I6 d.high,enL 4 yu d.stops]
structure Zo.ok (d:Zo):Prop where
 len:d.stops.els.length<=9223372036854775807
 stops:∀s∈d.stops.els,s.ok
structure Org where
 name:ByteArray
 ranks:Sl Zk
 divs:Sl Zo
 cpls:Sl Cpl
def enO(o:Org):List DV:=[St o.name,enL 6 enR o.ranks,enL 5 enV o.divs,enL 5 enC o.cpls]
structure Org.ok (o:Org):Prop where
 rl:o.ranks.els.length<=9223372036854775807
 ranks:∀r∈o.ranks.els,ki r
 dl:o.divs.els.length<=9223372036854775807
 divs:∀d∈o.divs.els,d.ok
 cl:o.cpls.els.length<=9223372036854775807
def zbp(x:Place):List Zr->List ByteArray->Int
 | [],_=>0
 |s::r,ns=>if uX x s≠0 then uX x s else if ns.any (eqB s.name)=true then 9 else zbp x r (ns++[s.name])
def zjW(id:Nat)(e:Int)(m:List OC):PX:=if e≠0 then(.ret,[I6 e],m) else(.exit id,[],m)
theorem l27(k:Nat)(x:Place)(hx:x.ok)(l:Sl Zr)(hl:l.els.length<=9223372036854775807)(hs:∀s∈l.els,s.ok):∀(r:List Zr) (i:Nat) (ns:List ByteArray),l.els.drop i=r->
  ∃m,z6 (znX (D (k+7)) (I6 (l.els.length:Int)) (enL 4 yu l) (enL 6 enR x.ranks) (I6 x.low) (I6 x.high)) [I6 (i:Int)] [some (ns.map enN)]=some (zjW 0 (zbp x r ns) m):=by
 intro r
 induction r with
 |nil=>intro i ns h;refine⟨[some (ns.map enN)],zz ?_⟩;simp only[znX,zK,zr,zb,vE (yz h),zu];rfl
 |cons s r ih=>
  intro i ns h;have h1:=y7 h;have ea:zg .add (I6 (i:Int)) (I6 1)=some (I6 ((i+1:Nat):Int)):=yW;have c:=t46 k x s hx (hs s (Lz3 (xh h)));simp only[enP,yu]at c;have body:∃m,znX (D (k+7)) (I6 (l.els.length:Int)) (enL 4 yu l) (enL 6 enR x.ranks) (I6 x.low) (I6 x.high) [I6 (i:Int)] [some (ns.map enN)] =
    some (if uX x s≠0 then(.ret,[I6 (uX x s)],m) else if ns.any (eqB s.name)=true then(.ret,[I6 9],m) else(.normal,[I6 ((i+1:Nat):Int)],[some ((ns++[s.name]).map enN)])):=by
   refine⟨[some (ns.map enN)],?_⟩;simp only[znX,zK,y6,zr,zb,zaO h1,zu,if_true,yq h,yu,xU,vK,c,zV,yC,xx,znh,jS,zrS,ea];by_cases hz:uX x s=0
   .cases hb:ns.any (eqB s.name)<;>simp_all[qk]
   grind
  obtain⟨m,body⟩:=body;unfold zbp;by_cases a1:uX x s≠0
  .rw[Yzd a1]at body ⊢;exact⟨m,by grind[zC,zjW]⟩
  rw[Yzb a1]at body ⊢;by_cases a2:ns.any (eqB s.name)=true
  .rw[Yzd a2]at body ⊢;exact⟨m,by rw[zC body];rfl⟩
  rw[Yzb a2]at body ⊢;rw[zW body];exact ih (i+1) _ (yl h)
def zcl(rs:Sl Zk)(d:Zo):Int:=if right d.low d.high≠0 then right d.low d.high else if 60<d.stops.els.length then 4 else zbp ⟨rs,d.low,d.high⟩ d.stops.els []
theorem t27(k:Nat)(o:Org)(ho:o.ok)(d:Zo)(hd:d.ok):D (k+8) 27 [SA (enO o),SA (enV d)]=some (S1 (I6 (zcl o.ranks d))):=by
 have hx:Place.ok ⟨o.ranks,d.low,d.high⟩:=⟨ho.rl,ho.ranks⟩;obtain⟨m,l⟩:=l27 k ⟨o.ranks,d.low,d.high⟩ hx d.stops hd.len hd.stops d.stops.els 0 [] rfl;have c:=t45 (k+6) d.low d.high;unfold enO enV;rw[D27];unfold P27 zcl;simp only[c,zV,yC,zb,zu,zR,yd];by_cases h1:right d.low d.high=0
 .by_cases h2:60<d.stops.els.length
  .grind
  .have h3:¬((60:Int)<(d.stops.els.length:Int)):=by omega
   simp only[List.map_nil]at l;rw[show (I6 0:DV)=I6 ((0:Nat):Int) from rfl,l];unfold zjW;by_cases h4:zbp ⟨o.ranks,d.low,d.high⟩ d.stops.els []=0<;>simp[h1,h2,h3,h4]
 grind
def zab:List Zk->List ByteArray->Int
 | [],_=>0
 |x::r,ns=>if x9 x≠0 then x9 x else if ns.any (eqB x.name)=true then 9 else zab r (ns++[x.name])
theorem l11(k:Nat)(l:Sl Zk)(hl:l.els.length<=9223372036854775807)(hs:∀s∈l.els,ki s):∀(r:List Zk) (i:Nat) (ns:List ByteArray),l.els.drop i=r->
  ∃m,z6 (zn1 (D (k+5)) (I6 (l.els.length:Int)) (enL 6 enR l)) [I6 (i:Int)] [some (ns.map enN)]=some (zjW 1 (zab r ns) m):=by
 intro r
 induction r with
 |nil=>intro i ns h;refine⟨[some (ns.map enN)],zz ?_⟩;simp only[zn1,zK,zr,zb,vE (yz h),zu];rfl
 |cons s r ih=>
  intro i ns h;have h1:=y7 h;have ea:zg .add (I6 (i:Int)) (I6 1)=some (I6 ((i+1:Nat):Int)):=yW;have c:=t25 k s (hs s (Lz3 (xh h)));simp only[enR]at c;have body:∃m,zn1 (D (k+5)) (I6 (l.els.length:Int)) (enL 6 enR l) [I6 (i:Int)] [some (ns.map enN)] =
    some (if x9 s≠0 then(.ret,[I6 (x9 s)],m) else if ns.any (eqB s.name)=true then(.ret,[I6 9],m) else(.normal,[I6 ((i+1:Nat):Int)],[some ((ns++[s.name]).map enN)])):=by
   refine⟨[some (ns.map enN)],?_⟩;simp only[zn1,zK,y6,zr,zb,zaO h1,zu,if_true,yq h,enR,xU,vK,c,zV,yC,xx,znh,jS,zrS,ea];by_cases hz:x9 s=0
   .cases hb:ns.any (eqB s.name)<;>simp_all[qk]
   grind
  obtain⟨m,body⟩:=body;unfold zab;by_cases a1:x9 s≠0
  .rw[Yzd a1]at body ⊢;exact⟨m,by grind[zC,zjW]⟩
  rw[Yzb a1]at body ⊢;by_cases a2:ns.any (eqB s.name)=true
  .rw[Yzd a2]at body ⊢;exact⟨m,by rw[zC body];rfl⟩
  rw[Yzb a2]at body ⊢;rw[zW body];exact ih (i+1) _ (yl h)
def zck(rs:Sl Zk):List Zo->List ByteArray->Int
 | [],_=>0
 |d::r,ns=>if isName d.name=false then 8 else if ns.any (eqB d.name)=true then 9 else if zcl rs d≠0 then zcl rs d else zck rs r (ns++[d.name])
def keyOf(d:Zo):Int×Int:=(d.low,d.high)
def grow{α:Type}(l:List α):Sl α:=match l with | []=>none|_=>some l
theorem yO{α:Type}(l:List α):(grow l).els=l:=by cases l<;>rfl
theorem wH{α:Type}(l:List α)(x:α):grow (l++[x])=some ((grow l).els++[x]):=by rw[yO];cases l<;>rfl
theorem zxb(k:Nat)(o:Org)(ho:o.ok)(hle:o.divs.els.length<=8):∀(r:List Zo) (i:Nat) (ns:List ByteArray),o.divs.els.drop i=r->
  ∃m,z6 (zgs (D (k+8)) (I6 (o.divs.els.length:Int)) (enL 5 enV o.divs) (St o.name) (enL 6 enR o.ranks) (enL 5 enC o.cpls)) [I6 (i:Int)] [ocL enK (grow ((o.divs.els.take i).map keyOf)),some (ns.map enN)] =
   some (if zck o.ranks r ns≠0 then(.ret,[I6 (zck o.ranks r ns)],m) else(.exit 4,[],[ocL enK (grow (o.divs.els.map keyOf)),m.headD none])):=by
 intro r
 induction r with
 |nil=>intro i ns h;refine⟨[some (ns.map enN)],zz ?_⟩;have:o.divs.els.take i=o.divs.els:=List.take_of_length_le (yz h);simp only[zgs,zK,zr,zb,vE (yz h),zu,this];rfl
 |cons d r ih=>
  intro i ns h;have h1:=y7 h;have ea:zg .add (I6 (i:Int)) (I6 1)=some (I6 ((i+1:Nat):Int)):=yW;have c:=t27 k o ho d (ho.divs d (Lz3 (xh h)));have cn:=t24 (k+6) d.name;simp only[enO,enV]at c;have hn:o.divs.els.take (i+1)=o.divs.els.take i++[d]:=by grind
  have hlen:((grow ((o.divs.els.take i).map keyOf)).els).length=i:=by grind[yO]
  have ef:fits 16 ((grow ((o.divs.els.take i).map keyOf)).els.length+1)=true:=y8 (by decide) (by omega);have body:∃m,zgs (D (k+8)) (I6 (o.divs.els.length:Int)) (enL 5 enV o.divs) (St o.name) (enL 6 enR o.ranks) (enL 5 enC o.cpls) [I6 (i:Int)] [ocL enK (grow ((o.divs.els.take i).map keyOf)),some (ns.map enN)] =
    some (if isName d.name=false then(.ret,[I6 8],m) else if ns.any (eqB d.name)=true then(.ret,[I6 9],m) else if zcl o.ranks d≠0 then(.ret,[I6 (zcl o.ranks d)],m)
     else(.normal,[I6 ((i+1:Nat):Int)],[ocL enK (grow ((o.divs.els.take (i+1)).map keyOf)),some ((ns++[d.name]).map enN)])):=by
   rw[hn,Yye,Yzu,List.map_nil,wH];simp only[zgs,zK,y6,uj,zr,zb,zaO h1,zu,if_true,yq h,enV,xU,vK,c,cn,zV,wb,yC,xx,znh,jS,zrS,ea,jO,YzJ,Yz6,ef,wv,w7];cases isName d.name with
   |false=>simp
   |true=>
    cases hb:ns.any (eqB d.name) with
    |true=>simp
    |false=>
     refine⟨[some ((ns++[d.name]).map enN)],?_⟩
     grind[uH,enK,keyOf,qk,zb]
  obtain⟨m,body⟩:=body;unfold zck;by_cases a0:isName d.name=false
  .simp only[Yzd a0]at body ⊢;grind[zC]
  simp only[Yzb a0]at body ⊢;by_cases a1:ns.any (eqB d.name)=true
  .simp only[Yzd a1]at body ⊢;grind[zC]
  simp only[Yzb a1]at body ⊢;by_cases a2:zcl o.ranks d≠0
  .simp only[Yzd a2]at body ⊢;grind[zC]
  simp only[Yzb a2]at body ⊢;rw[zW body];exact ih (i+1) _ (yl h)
def qr(o:Org):Int:=
 if isName o.name=false then 8 else if 60<o.ranks.els.length then 4 else if zab o.ranks.els []≠0 then zab o.ranks.els [] else if o.divs.els.length=0 then 13 else if 8<o.divs.els.length then 4
 else if zck o.ranks o.divs.els []≠0 then zck o.ranks o.divs.els [] else zno (o.divs.els.map keyOf) o.cpls.els
theorem t11(k:Nat)(o:Org)(ho:o.ok):D (k+9) 11 [SA (enO o)]=some (S1 (I6 (qr o))):=by
 obtain⟨m,l⟩:=l11 (k+3) o.ranks ho.rl ho.ranks o.ranks.els 0 [] rfl;have cn:=t24 (k+6) o.name;unfold enO;rw[D11];unfold P11 qr;simp only[cn,zV,wb,yC,zb,zu,zR,yd,we];cases isName o.name with
 |false=>rfl
 |true=>
  by_cases h1:60<o.ranks.els.length
  .grind
  have h2:¬((60:Int)<(o.ranks.els.length:Int)):=by omega
  simp only[List.map_nil]at l;simp only[h1,h2,decide_false,Bool.not_true,Yzq,if_false,Bool.true_eq_false];rw[show (I6 0:DV)=I6 ((0:Nat):Int) from rfl,l];unfold zjW;by_cases h3:zab o.ranks.els []≠0
  .simp_all
  simp only[Yzb h3,y3,Yzz,Yza];by_cases h4:o.divs.els.length=0
  .simp[h4]
  have h5:¬((o.divs.els.length:Int)=((0:Nat):Int)):=by omega
  by_cases h6:8<o.divs.els.length
  .grind
  have h7:¬((8:Int)<(o.divs.els.length:Int)):=by omega
  obtain⟨m2,l2⟩:=zxb k o ho (by omega) o.divs.els 0 [] rfl;simp only[List.take_zero,List.map_nil]at l2;rw[show ocL enK (grow ([]:List (Int×Int)))=none from rfl]at l2;have h9:((o.divs.els.length:Int)==0)=false:=by grind
  simp only[h4,h6,h7,h9,decide_false,Yzq,if_false];rw[l2];by_cases h8:zck o.ranks o.divs.els []≠0
  .simp_all
  have cc:=t28 (k+4) (grow (o.divs.els.map keyOf)) o.cpls (by grind[yO]) ho.cl;simp_all[yO,zsW]
end Go.Proofs.Tryz.Kn
end
section
namespace Go.Proofs.Tryz.Kn
open Go Go.CE Go.PE
structure RPl where
 tone:Nat
 feet:Nat
 first:Int
 pipes:Nat
 w0:Nat
 w1:Nat
 w2:Nat
 w3:Nat
 w4:Nat
structure RPl.ok (r:RPl):Prop where
 tone:r.tone<256
 feet:r.feet<256
 f1:-128<=r.first
 f2:r.first<=127
 pipes:r.pipes<256
 w0:r.w0<256
 w1:r.w1<256
 w2:r.w2<256
 w3:r.w3<256
 w4:r.w4<256
def za5(r:RPl):List DV:=[U8 (r.tone:Int),U8 (r.feet:Int),.int .i8 r.first,U8 (r.pipes:Int),U8 (r.w0:Int),U8 (r.w1:Int),U8 (r.w2:Int),U8 (r.w3:Int),U8 (r.w4:Int)]
structure Pul where
 rank:Nat
 feet:Nat
 kind:Nat
 at_:Nat
structure Pul.ok (x:Pul):Prop where
 rank:x.rank<256
 feet:x.feet<256
 kind:x.kind<256
 at_:x.at_<256
def zhB(x:Pul):List DV:=[U8 (x.rank:Int),U8 (x.feet:Int),U8 (x.kind:Int),U8 (x.at_:Int)]
structure Boa where
 low:Nat
 keys:Nat
 pedal:Bool
 stops:Sl Pul
structure Boa.ok (b:Boa):Prop where
 low:b.low<256
 keys:b.keys<256
 len:b.stops.els.length<=9223372036854775807
 stops:∀x∈b.stops.els,x.ok
def xJ(b:Boa):List DV:=[U8 (b.low:Int),U8 (b.keys:Int),Bo b.pedal,enL 4 zhB b.stops]
structure Lnk where
 src:Nat
 dst:Nat
 shift:Int
 thr:Bool
structure Lnk.ok (l:Lnk):Prop where
 src:l.src<256
 dst:l.dst<256
 s1:-128<=l.shift
 s2:l.shift<=127
def zeP(l:Lnk):List DV:=[U8 (l.src:Int),U8 (l.dst:Int),.int .i8 l.shift,Bo l.thr]
structure Pln where
 ranks:Sl RPl
 divs:Sl Boa
 cpls:Sl Lnk
structure Pln.ok (p:Pln):Prop where
 rl:p.ranks.els.length<=9223372036854775807
 ranks:∀x∈p.ranks.els,x.ok
 dl:p.divs.els.length<=9223372036854775807
 divs:∀x∈p.divs.els,x.ok
 cl:p.cpls.els.length<=9223372036854775807
 cpls:∀x∈p.cpls.els,x.ok
def zhC(p:Pln):List DV:=[enL 9 za5 p.ranks,enL 4 xJ p.divs,enL 4 zeP p.cpls]
def zhr(l:List Boa):Bool:=l.all fun b=>decide (b.stops.els.length<=3)
def kR(p:Pln):Bool:=decide (1<=p.ranks.els.length)&&decide (p.ranks.els.length<=3)&&decide (1<=p.divs.els.length)&&decide (p.divs.els.length<=3)&&decide (p.cpls.els.length<=3)&&zhr p.divs.els
theorem l21(l:Sl Boa)(hl:l.els.length<=9223372036854775807):∀(r:List Boa) (i:Nat),l.els.drop i=r->
  z6 (zgq (enL 4 xJ l)) [I6 (i:Int)] []=some (if zhr r then(.exit 0,[],[]) else(.ret,[Bo false],[])):=by
 intro r
 induction r with
 |nil=>
  intro i h;refine zz ?_
  grind[zgq,zK,zR,zr,zb,vE,yz,zu]
 |cons x r ih=>
  intro i h;have h1:=y7 h;have ea:zg .add (I6 (i:Int)) (I6 1)=some (I6 ((i+1:Nat):Int)):=yW;have body:zgq (enL 4 xJ l) [I6 (i:Int)] []=some (if x.stops.els.length<=3 then(.normal,[I6 ((i+1:Nat):Int)],[]) else(.ret,[Bo false],[])):=by
   simp only[zgq,zK,zR,zr,zb,zaO h1,zu,if_true,yq h,xJ,xU,vK,yd,ea]
   grind
  by_cases hc:x.stops.els.length<=3
  .rw[Yzd hc]at body;rw[zW body,ih (i+1) (yl h)];grind[zhr]
  .rw[Yzb hc]at body;grind[zC,zhr]
theorem t21(k:Nat)(p:Pln)(hp:p.ok):D (k+1) 21 [SA (zhC p)]=some (S1 (Bo (kR p))):=by
 have l:=l21 p.divs hp.dl p.divs.els 0 rfl;unfold zhC;rw[D21];unfold P21 kR;simp only[zR,zb,zr,yd,zu,YzL];rw[show (I6 0:DV)=I6 ((0:Nat):Int) from rfl,l];by_cases h1:1<=p.ranks.els.length
 .have g1:¬((p.ranks.els.length:Int)<1):=by omega
  by_cases h2:p.ranks.els.length<=3
  .have g2:¬((3:Int)<(p.ranks.els.length:Int)):=by omega
   by_cases h3:1<=p.divs.els.length
   .have g3:¬((p.divs.els.length:Int)<1):=by omega
    by_cases h4:p.divs.els.length<=3
    .have g4:¬((3:Int)<(p.divs.els.length:Int)):=by omega
     by_cases h5:p.cpls.els.length<=3
     .have g5:¬((3:Int)<(p.cpls.els.length:Int)):=by omega
      simp only[Yzb g1,Yzb g2,Yzb g3,Yzb g4,Yzb g5,decide_eq_true h1,decide_eq_true h2,decide_eq_true h3,decide_eq_true h4,decide_eq_true h5,Yyc];cases zhr p.divs.els<;>rfl
     .grind
    .grind
   .grind
  .grind
 .grind
theorem jL{α:Type}(f:α->List DV)(l:List α)(i:Nat):j5 (some (l.map f)) i=(l[i]?).map f:=by show (l.map f)[i]? = _;rw[Lz6]
theorem t63(k:Nat)(n:Nat):D (k+1) 63 [S1 (U8 (n:Int))]=some (SA (enF (fA n))):=by
 rw[D63];unfold P63;have e:zg .rem (U8 (n:Int)) (U8 16)=some (U8 ((n % 16:Nat):Int)):=zaH (b:=16) (by decide);have i:yn (some (feetA.map enF)) (U8 ((n % 16:Nat):Int))=some (n % 16):=wy (by rw[Yzh];exact Yzt _ (by decide));have j:j5 (some (feetA.map enF)) (n % 16)=some (enF (fA n)):=by grind[jL,zqx]
 rw[e,zb];refine (congrArg (za · _) i).trans ?_;rw[zb];refine (congrArg (za · _) j).trans ?_;rfl
theorem t64(k:Nat)(n:Nat):D (k+1) 64 [S1 (U8 (n:Int))]=some (SA (enF (fB n))):=by
 rw[D64];unfold P64;have e:zg .rem (U8 (n:Int)) (U8 6)=some (U8 ((n % 6:Nat):Int)):=zaH (b:=6) (by decide);have i:yn (some (feetB.map enF)) (U8 ((n % 6:Nat):Int))=some (n % 6):=wy (by rw[Yzh];exact Yzt _ (by decide));have j:j5 (some (feetB.map enF)) (n % 6)=some (enF (fB n)):=by grind[jL,zqw]
 rw[e,zb];refine (congrArg (za · _) i).trans ?_;rw[zb];refine (congrArg (za · _) j).trans ?_;rfl
def pre(c:UInt8)(i:Nat):ByteArray:=⟨#[c]⟩++jY [48+(i:Int)] ByteArray.empty
theorem zd6(c:UInt8)(i:Nat):zgv .add (.str ⟨#[c]⟩) (.str (jY [48+(i:Int)] ByteArray.empty))=some (St (pre c i)):=rfl
theorem zbe(i:Nat):zgw (.lst 1 [[U8 (48+(i:Int))]])=some (St (jY [48+(i:Int)] ByteArray.empty)):=rfl
def zor:Nat->ByteArray
 |0=>⟨#[79,112,101,110]⟩
 |1=>⟨#[70,108,117,116,101]⟩
 |_=>⟨#[82,101,101,100]⟩
def wAt(r:RPl):Nat->Nat
 |0=>r.w0
 |1=>r.w1
 |2=>r.w2
 |3=>r.w3
 |_=>r.w4
def kF(r:RPl)(n:Nat):List Int:=(List.range n).map fun k=>((wAt r (k % 5):Nat):Int)
theorem zcQ(r:RPl)(n:Nat):kF r (n+1)=kF r n++[((wAt r (n % 5):Nat):Int)]:=by grind[kF,List.range_succ]
theorem zfa(r:RPl)(n:Nat):(kF r n).length=n:=by simp[kF]
theorem zts{r:RPl}(h:r.ok)(i:Nat):wAt r i<256:=by
 unfold wAt;split
 .exact h.w0
 .exact h.w1
 .exact h.w2
 .exact h.w3
 .exact h.w4
def zuy(i:Nat)(r:RPl):Zk:=⟨pre 82 (i % 10),zor (r.tone % 3),(fA r.feet).1,(fA r.feet).2,r.first,some (kF r (1+r.pipes % 25))⟩
theorem l39(r:RPl)(hr:r.ok)(c0 c1 c2 c3 c4:DV):∀(m j:Nat),j+m=1+r.pipes % 25->
  z6 (zgk (U8 (r.pipes:Int)) (U8 (r.w0:Int)) (U8 (r.w1:Int)) (U8 (r.w2:Int)) (U8 (r.w3:Int)) (U8 (r.w4:Int))) [I6 (j:Int),c0,c1,c2,c3,c4] [ocL enW (grow (kF r j))] =
   some (.exit 0,[c0,c1,c2,c3,c4],[ocL enW (grow (kF r (1+r.pipes % 25)))]):=by
 have e1:zg .rem (U8 (r.pipes:Int)) (U8 25)=some (U8 ((r.pipes % 25:Nat):Int)):=zaH (b:=25) (by decide);have hm:r.pipes % 25<25:=Yzt _ (by omega);have e2:zZ .i64 (U8 ((r.pipes % 25:Nat):Int))=some (I6 ((r.pipes % 25:Nat):Int)):=wN;have e3:zg .add (I6 1) (I6 ((r.pipes % 25:Nat):Int))=some (I6 ((1+r.pipes % 25:Nat):Int)):=by grind[yW]
 intro m
 induction m with
 |zero=>
  intro j hj;refine zz ?_;have hj':j=1+r.pipes % 25:=by omega
  subst hj';have:decide (((1+r.pipes % 25:Nat):Int)<((1+r.pipes % 25:Nat):Int))=false:=vE (by omega);simp_all[zgk]
 |succ m ih=>
  intro j hj;have hlt:decide ((j:Int)<((1+r.pipes % 25:Nat):Int))=true:=zaO (by omega);have ea:zg .add (I6 (j:Int)) (I6 1)=some (I6 ((j+1:Nat):Int)):=yW;have eb:zg .rem (I6 (j:Int)) (I6 5)=some (I6 ((j % 5:Nat):Int)):=zaH (b:=5) (by decide);have h5:j % 5<5:=Yzt _ (by omega);have en:j4 5 (I6 ((j % 5:Nat):Int))=some (j % 5):=zbc h5;have hw:=zts hr (j % 5);have ew:atD [U8 (r.w0:Int),U8 (r.w1:Int),U8 (r.w2:Int),U8 (r.w3:Int),U8 (r.w4:Int)] (j % 5)=U8 ((wAt r (j % 5):Nat):Int):=by
   have:j % 5=0\/j % 5=1\/j % 5=2\/j % 5=3\/j % 5=4:=by omega
   rcases this with h|h|h|h|h<;>rw[h]<;>rfl
  have ec:zZ .i64 (U8 ((wAt r (j % 5):Nat):Int))=some (I6 ((wAt r (j % 5):Nat):Int)):=wN;have ef:fits 8 ((grow (kF r j)).els.length+1)=true:=y8 (by decide) (by grind[yO,zfa]);have body:zgk (U8 (r.pipes:Int)) (U8 (r.w0:Int)) (U8 (r.w1:Int)) (U8 (r.w2:Int)) (U8 (r.w3:Int)) (U8 (r.w4:Int)) [I6 (j:Int),c0,c1,c2,c3,c4] [ocL enW (grow (kF r j))] =
    some (.normal,[I6 ((j+1:Nat):Int),c0,c1,c2,c3,c4],[ocL enW (grow (kF r (j+1)))]):=by
   simp_all[zcQ,wH,zgk,uH]
  grind[zW]
theorem t39(k:Nat)(i:Nat)(hi:i<10)(r:RPl)(hr:r.ok):D (k+2) 39 [SA (za5 r),S1 (I6 (i:Int))]=some (SA (enR (zuy i r))):=by
 unfold za5;rw[D39];unfold P39;have e1:zg .rem (I6 (i:Int)) (I6 10)=some (I6 ((i % 10:Nat):Int)):=zaH (b:=10) (by decide);have h10:i % 10<10:=Yzt _ (by decide);have e2:zg .add (I6 48) (I6 ((i % 10:Nat):Int))=some (I6 (48+((i % 10:Nat):Int))):=yW;have e3:zZ .u8 (I6 (48+((i % 10:Nat):Int)))=some (U8 (48+((i % 10:Nat):Int))):=by
  show some (DV.int .u8 (xZ .u8 (48+((i % 10:Nat):Int))))=_
  grind[zjG]
 have e4:zg .rem (U8 (r.tone:Int)) (U8 3)=some (U8 ((r.tone % 3:Nat):Int)):=zaH (b:=3) (by decide);have e5:zZ .i64 (.int .i8 r.first)=some (I6 r.first):=by
  have:=hr.f1;have:=hr.f2
  exact wN
 have l:=l39 r hr (St (pre 82 (i % 10))) (St (zor (r.tone % 3))) (I6 (fA r.feet).1) (I6 (fA r.feet).2) (I6 r.first) (1+r.pipes % 25) 0 (by omega);rw[show ocL enW (grow (kF r 0))=none from rfl]at l;have hg:grow (kF r (1+r.pipes % 25))=some (kF r (1+r.pipes % 25)):=by grind[zcQ,wH,yO]
 rw[hg]at l;have h3:r.tone % 3=0\/r.tone % 3=1\/r.tone % 3=2:=by omega
 have et:za (yn (some [[(.str ⟨#[79,112,101,110]⟩)],[(.str ⟨#[70,108,117,116,101]⟩)],[(.str ⟨#[82,101,101,100]⟩)]]) (U8 ((r.tone % 3:Nat):Int))) (fun n6=>j5 (some [[(.str ⟨#[79,112,101,110]⟩)],[(.str ⟨#[70,108,117,116,101]⟩)],[(.str ⟨#[82,101,101,100]⟩)]]) n6)=some [St (zor (r.tone % 3))]:=by rcases h3 with h|h|h<;>rw[h]<;>rfl
 have eu:∀{β:Type} (K:List DV->Option β),za (yn (some [[(.str ⟨#[79,112,101,110]⟩)],[(.str ⟨#[70,108,117,116,101]⟩)],[(.str ⟨#[82,101,101,100]⟩)]]) (U8 ((r.tone % 3:Nat):Int))) (fun n6=>za (j5 (some [[(.str ⟨#[79,112,101,110]⟩)],[(.str ⟨#[70,108,117,116,101]⟩)],[(.str ⟨#[82,101,101,100]⟩)]]) n6) K)=K [St (zor (r.tone % 3))]:=by intro β K;rcases h3 with h|h|h<;>rw[h]<;>rfl
 have c:=t63 k r.feet;simp only[e1,e2,e3,e4,zb,zbe,zd6];rw[eu];rw[c];unfold enF;rw[zxR (show[I6 (fA r.feet).1,I6 (fA r.feet).2].length=2 from rfl)];simp only[e5,zb,xU,vK];rw[show (I6 0:DV)=I6 ((0:Nat):Int) from rfl,l];rfl
end Go.Proofs.Tryz.Kn
end
section
namespace Go.Proofs.Tryz.Kn
open Go Go.CE Go.PE
theorem bT2{β:Type}(a b:DV)(K:List DS->Option β):bT [none,none] (some (.tup [.one a,.one b])) K=K [.one a,.one b]:=rfl
def zik(rs:List Zk)(i:Nat):Zk:=(rs[i]?).getD ⟨ByteArray.empty,ByteArray.empty,8,1,0,none⟩
theorem zdZ{rs:List Zk}{i:Nat}(h:i<rs.length):rs[i]? = some (zik rs i):=by grind[zik]
theorem zdY{rs:List Zk}{i:Nat}(h:i<rs.length):zik rs i∈rs:=Lz3 (zdZ h)
def wQ(low high:Int)(n:Int)(sh:Int)(m:Int)(sh2:Int)(at_:Int):Nat->List Seg
 |2=>[⟨low,high,some [⟨n,sh⟩,⟨n,sh+7⟩]⟩]
 |3=>if low<at_ then[⟨low,at_-1,some [⟨n,sh⟩]⟩,⟨at_,high,some [⟨m,sh2⟩]⟩] else[⟨at_,high,some [⟨m,sh2⟩]⟩]
 |4=>if low<at_ then[⟨low,at_-1,some [⟨n,sh⟩]⟩,⟨at_,high,some [⟨n,sh-12⟩]⟩] else[⟨at_,high,some [⟨n,sh-12⟩]⟩]
 |5=>[⟨at_,high,some [⟨n,sh⟩]⟩]
 |_=>[⟨low,high,some [⟨n,sh⟩]⟩]
def rkF(r:Zk):Int×Int:=(r.num,r.den)
def zdj(rs:List Zk)(low high:Int)(i:Nat)(x:Pul):Zr:=
 ⟨pre 83 i, (fB x.feet).1, (fB x.feet).2, some (wQ low high ((x.rank % rs.length : Nat) : Int) (shf (fB x.feet) (rkF (zik rs (x.rank % rs.length)))) (((x.rank % rs.length + 1) % rs.length : Nat) : Int)
  (shf (fB x.feet) (rkF (zik rs ((x.rank % rs.length+1) % rs.length)))) (low+((x.at_:Int).tmod (high-low+1))) (x.kind % 6))⟩
theorem t40(k:Nat)(rs:List Zk)(hl:0<rs.length)(hl3:rs.length<=1000)(hf:∀r∈rs,rkF r∈feetA)(low high:Int)(h0:0<=low)(h1:low<=high)(h2:high<=1000)(x:Pul)(hx:x.ok)(i:Nat)(hi:i<10):
  D (k+6) 40 [S1 (enL 6 enR (some rs)),SA [I6 low,I6 high],SA (zhB x),S1 (I6 (i:Int))]=some (SA (yu (zdj rs low high i x))):=by
 unfold zhB;rw[D40];unfold P40 zdj;have hn:x.rank % rs.length<rs.length:=Yzt _ hl;have hm:(x.rank % rs.length+1) % rs.length<rs.length:=Yzt _ hl;generalize hN:x.rank % rs.length=n at hn hm;generalize hM:(n+1) % rs.length=m at hm;have e0:zZ .i64 (U8 (x.rank:Int))=some (I6 (x.rank:Int)):=by have:=hx.rank;exact wN
 have e1:zg .rem (I6 (x.rank:Int)) (I6 (rs.length:Int))=some (I6 (n:Int)):=by grind[zaH]
 have e2:zg .add (I6 48) (I6 (i:Int))=some (I6 (48+(i:Int))):=yW;have e3:zZ .u8 (I6 (48+(i:Int)))=some (U8 (48+(i:Int))):=by
  show some (DV.int .u8 (xZ .u8 (48+(i:Int))))=_
  grind[zjG]
 have c1:=t64 (k+4) x.feet;have ix:uh 6 (enL 6 enR (some rs)) (I6 (n:Int))=some (enR (zik rs n)):=by grind[zbb,zdZ]
 have ix2:uh 6 (enL 6 enR (some rs)) (I6 (m:Int))=some (enR (zik rs m)):=by grind[zbb,zdZ]
 have s1:=t65 k (fB x.feet) (rkF (zik rs n)) (zm4 _) (hf _ (zdY hn));have s2:=t65 k (fB x.feet) (rkF (zik rs m)) (zm4 _) (hf _ (zdY hm));have b1:=ztG (fB x.feet) (rkF (zik rs n)) (zm4 _) (hf _ (zdY hn));generalize shf (fB x.feet) (rkF (zik rs n))=sh at s1 b1 ⊢;generalize shf (fB x.feet) (rkF (zik rs m))=sh2 at s2 ⊢;unfold rkF enF at s1 s2;unfold enF at c1;generalize (fB x.feet).1=u at c1 s1 s2 ⊢;generalize (fB x.feet).2=v at c1 s1 s2 ⊢;simp only at s1 s2;have e4:zZ .i64 (U8 (x.at_:Int))=some (I6 (x.at_:Int)):=by have:=hx.at_;exact wN
 have e5:zg .sub (I6 high) (I6 low)=some (I6 (high-low)):=zk9;have e6:zg .add (I6 (high-low)) (I6 1)=some (I6 (high-low+1)):=yW;have e7:zg .rem (I6 (x.at_:Int)) (I6 (high-low+1))=some (I6 ((x.at_:Int).tmod (high-low+1))):=zbd _ _ _ (by omega);have hq:0<=(x.at_:Int).tmod (high-low+1)/\(x.at_:Int).tmod (high-low+1)<high-low+1:=⟨Int.tmod_nonneg _ (by omega),Int.tmod_lt_of_pos _ (by omega)⟩;generalize (x.at_:Int).tmod (high-low+1)=q at e7 hq ⊢;have e8:zg .add (I6 low) (I6 q)=some (I6 (low+q)):=yW;have e9:zg .rem (U8 (x.kind:Int)) (U8 6)=some (U8 ((x.kind % 6:Nat):Int)):=zaH (b:=6) (by decide);have e10:zg .add (I6 sh) (I6 7)=some (I6 (sh+7)):=yW;have e11:zg .sub (I6 sh) (I6 12)=some (I6 (sh-12)):=zk9;have e12:zg .add (I6 (n:Int)) (I6 1)=some (I6 ((n+1:Nat):Int)):=yW;have e13:zg .rem (I6 ((n+1:Nat):Int)) (I6 (rs.length:Int))=some (I6 (m:Int)):=by rw[<-hM];exact zaH (by omega)
 have e14:zg .sub (I6 (low+q)) (I6 1)=some (I6 (low+q-1)):=zk9;have f1:fits 40 1=true:=by decide
 have f2:fits 40 2=true:=by decide
 have hk:x.kind % 6<6:=Yzt _ (by decide);generalize x.kind % 6=kd at e9 hk ⊢;have b2:∀{β:Type} (a b:DV) (K:List DV->Option β),bA 2 (some (SA [a,b])) K=K [a,b]:=fun _ _ _=>rfl;simp only[e0,zb,zR,y9,e1,e2,e3,zbe,zd6,c1,b2,xU,vK,ix,enR,s1,bT2,znk,zhE,e4,e5,e6,e7,e8,e9,we,yd,zu,e10,e11,e12,e13,ix2,s2,e14];have hkd:kd=0\/kd=1\/kd=2\/kd=3\/kd=4\/kd=5:=by omega
 rcases hkd with h|h|h|h|h|h<;>subst h
 .rfl
 .rfl
 .rfl
 .by_cases hb:low<low+q
  .simp only[wQ,Yzd hb,decide_eq_true hb];rfl
  .simp only[wQ,Yzb hb,decide_eq_false hb];rfl
 .by_cases hb:low<low+q
  .simp only[wQ,Yzd hb,decide_eq_true hb];rfl
  .simp only[wQ,Yzb hb,decide_eq_false hb];rfl
 .rfl
def jh:Nat->List RPl->List Zk
 |_,[]=>[]
 |i,r::l=>zuy i r::jh (i+1) l
def vF(rs:List Zk)(low high:Int):Nat->List Pul->List Zr
 |_,[]=>[]
 |i,x::l=>zdj rs low high i x::vF rs low high (i+1) l
def zgy(b:Boa):Int:=36+((b.low % 12:Nat):Int)
def zcN(b:Boa):Int:=zgy b+((b.keys % 9:Nat):Int)
def zux(rs:List Zk)(i:Nat)(b:Boa):Zo:=⟨pre 68 i,b.pedal,zgy b,zcN b,grow (vF rs (zgy b) (zcN b) 0 b.stops.els)⟩
def jj(rs:List Zk):Nat->List Boa->List Zo
 |_,[]=>[]
 |i,b::l=>zux rs i b::jj rs (i+1) l
def zrI(n:Nat)(i:Nat)(l:Lnk):Cpl:=
 ⟨pre 67 i,((l.src % n:Nat):Int),((l.dst % n:Nat):Int),if ((l.src % n:Nat):Int)=((l.dst % n:Nat):Int)/\l.shift.tmod 25=0 then 12 else l.shift.tmod 25,l.thr⟩
def zbX(n:Nat):Nat->List Lnk->List Cpl
 |_,[]=>[]
 |i,c::l=>zrI n i c::zbX n (i+1) l
def zfv:ByteArray:=⟨#[79,114,103,97,110]⟩
def zfE(p:Pln):Org:=⟨zfv,grow (jh 0 p.ranks.els),grow (jj (jh 0 p.ranks.els) 0 p.divs.els),grow (zbX p.divs.els.length 0 p.cpls.els)⟩
theorem qx:∀(l:List RPl) (i:Nat),(jh i l).length=l.length
 | [],_=>rfl
 |_::l,i=>by simp[jh,qx l]
theorem zdi:∀(l:List RPl) (i:Nat),∀r∈jh i l,rkF r∈feetA
 | [],_,_,h=>by cases h
 |x::l,i,r,h=>by
  rcases Yzv.1 h with rfl|h
  .exact zu4 x.feet
  .exact zdi l _ r h
theorem zxa(k:Nat)(l:Sl RPl)(hl:l.els.length<=3)(hr:∀x∈l.els,x.ok)(nm:DV):∀(r:List RPl) (i:Nat) (acc:List Zk),l.els.drop i=r->acc.length=i->
  z6 (znZ (D (k+2)) (enL 9 za5 l)) [I6 (i:Int),nm] [ocL enR (grow acc),none,none]=some (.exit 0,[nm],[ocL enR (grow (acc++jh i r)),none,none]):=by
 intro r
 induction r with
 |nil=>grind[zz,znZ,zK,xI,y6,uj,zR,zr,zb,vE,yz,zu,jh]
 |cons x r ih=>
  intro i acc h ha;have h1:=y7 h;have ea:zg .add (I6 (i:Int)) (I6 1)=some (I6 ((i+1:Nat):Int)):=yW;have c:=t39 k i (by omega) x (hr x (Lz3 (xh h)));have ef:fits 80 ((grow acc).els.length+1)=true:=y8 (by decide) (by grind[yO]);have b6:∀{β:Type} (K:List DV->Option β),bA 6 (some (SA (enR (zuy i x)))) K=K (enR (zuy i x)):=fun _=>rfl;have body:znZ (D (k+2)) (enL 9 za5 l) [I6 (i:Int),nm] [ocL enR (grow acc),none,none]=some (.normal,[I6 ((i+1:Nat):Int),nm],[ocL enR (grow (acc++[zuy i x])),none,none]):=by rw[wH];unfold za5 at c;simp only[znZ,zK,xI,y6,uj,zR,zr,zb,zaO h1,zu,if_true,yq h,za5,xU,vK,c,b6,jO,YzJ,Yz6,ef,wv,ea,w7];rw[<-uH (f:=enR)];rfl
  rw[zW body,ih (i+1) _ (yl h) (by simp[ha])];simp[jh]
theorem zuK(k:Nat)(rs:List Zk)(hl:0<rs.length)(hl3:rs.length<=1000)(hf:∀r∈rs,rkF r∈feetA)(b:Boa)(hb:b.ok)(h3:b.stops.els.length<=3)(low high:Int)(h0:0<=low)(h1:low<=high)(h2:high<=1000)(d0 d1 c0 c1:DV):
  ∀(r:List Pul) (i:Nat) (acc:List Zr),b.stops.els.drop i=r->acc.length=i->
  z6 (zgo (D (k+6)) (xJ b) [d0,d1,enL 6 enR (some rs)]) [I6 (i:Int),c0,c1,I6 low,I6 high] [ocL yu (grow acc)]=some (.exit 4,[c0,c1,I6 low,I6 high],[ocL yu (grow (acc++vF rs low high i r))]):=by
 intro r
 induction r with
 |nil=>intro i acc h _;refine zz ?_;simp only[zgo,xJ,xU,vK,zK,xI,y6,zR,zr,zb,vE (yz h),zu,vF,List.append_nil];rfl
 |cons x r ih=>
  intro i acc h ha;have hlt:=y7 h;have ea:zg .add (I6 (i:Int)) (I6 1)=some (I6 ((i+1:Nat):Int)):=yW;have c:=t40 k rs hl hl3 hf low high h0 h1 h2 x (hb.stops x (Lz3 (xh h))) i (by omega);have ef:fits 56 ((grow acc).els.length+1)=true:=y8 (by decide) (by grind[yO]);have b4:∀{β:Type} (K:List DV->Option β),bA 4 (some (SA (yu (zdj rs low high i x)))) K=K (yu (zdj rs low high i x)):=fun _=>rfl;have body:zgo (D (k+6)) (xJ b) [d0,d1,enL 6 enR (some rs)] [I6 (i:Int),c0,c1,I6 low,I6 high] [ocL yu (grow acc)]=some (.normal,[I6 ((i+1:Nat):Int),c0,c1,I6 low,I6 high],[ocL yu (grow (acc++[zdj rs low high i x]))]):=by rw[wH];unfold zhB at c;simp only[zgo,xJ,zK,xI,y6,zR,zr,zb,zaO hlt,zu,if_true,xU,vK,yq h,zhB,c,b4,jO,YzJ,Yz6,ef,wv,ea,w7];rw[<-uH (f:=yu)];rfl
  rw[zW body,ih (i+1) _ (yl h) (by simp[ha])];simp[vF]
theorem zrQ(b:Boa):36<=zgy b/\zgy b<=47:=by grind[zgy]
theorem zpt(b:Boa):zgy b<=zcN b/\zcN b<=zgy b+8:=by grind[zcN]
theorem zuL(k:Nat)(rs:List Zk)(hl:0<rs.length)(hl3:rs.length<=1000)(hf:∀r∈rs,rkF r∈feetA)(l:Sl Boa)(hll:l.els.length<=3)(hb:∀b∈l.els,b.ok)(h3:∀b∈l.els,b.stops.els.length<=3)(nm:DV):
  ∀(r:List Boa) (i:Nat) (acc:List Zo),l.els.drop i=r->acc.length=i->
  z6 (zgp (D (k+6)) (enL 4 xJ l)) [I6 (i:Int),nm,enL 6 enR (some rs)] [ocL enV (grow acc),none]=some (.exit 2,[nm,enL 6 enR (some rs)],[ocL enV (grow (acc++jj rs i r)),none]):=by
 intro r
 induction r with
 |nil=>grind[zz,zgp,zK,xI,y6,uj,zR,zr,zb,vE,yz,zu,jj]
 |cons b r ih=>
  intro i acc h ha;have hlt:=y7 h;have hmem:=Lz3 (xh h);have ea:zg .add (I6 (i:Int)) (I6 1)=some (I6 ((i+1:Nat):Int)):=yW;have hlow:=zrQ b;have hhigh:=zpt b;have e1:zg .rem (U8 (b.low:Int)) (U8 12)=some (U8 ((b.low % 12:Nat):Int)):=zaH (b:=12) (by decide);have e2:zZ .i64 (U8 ((b.low % 12:Nat):Int))=some (I6 ((b.low % 12:Nat):Int)):=wN;have e3:zg .add (I6 36) (I6 ((b.low % 12:Nat):Int))=some (I6 (zgy b)):=yW;have e4:zg .add (I6 48) (I6 (i:Int))=some (I6 (48+(i:Int))):=yW;have e5:zZ .u8 (I6 (48+(i:Int)))=some (U8 (48+(i:Int))):=by show some (DV.int .u8 (xZ .u8 (48+(i:Int))))=_;rw[zjG];congr 2;omega
  have e6:zg .rem (U8 (b.keys:Int)) (U8 9)=some (U8 ((b.keys % 9:Nat):Int)):=zaH (b:=9) (by decide);have e7:zZ .i64 (U8 ((b.keys % 9:Nat):Int))=some (I6 ((b.keys % 9:Nat):Int)):=wN;have e8:zg .add (I6 (zgy b)) (I6 ((b.keys % 9:Nat):Int))=some (I6 (zcN b)):=by have:zg .add (I6 (zgy b)) (I6 ((b.keys % 9:Nat):Int))=some (I6 (zgy b+((b.keys % 9:Nat):Int))):=yW;exact this
  have ll:=zuK k rs hl hl3 hf b (hb b hmem) (h3 b hmem) (zgy b) (zcN b) (by omega) (by omega) (by omega) (I6 (i:Int)) nm (St (pre 68 i)) (Bo b.pedal) b.stops.els 0 [] rfl rfl;rw[show ocL yu (grow ([]:List Zr))=none from rfl,show (I6 ((0:Nat):Int):DV)=I6 0 from rfl,Yz9]at ll;have ef:fits 64 ((grow acc).els.length+1)=true:=y8 (by decide) (by grind[yO]);have body:zgp (D (k+6)) (enL 4 xJ l) [I6 (i:Int),nm,enL 6 enR (some rs)] [ocL enV (grow acc),none]=some (.normal,[I6 ((i+1:Nat):Int),nm,enL 6 enR (some rs)],[ocL enV (grow (acc++[zux rs i b])),none]):=by rw[wH];have ix:uh 4 (enL 4 xJ l) (I6 (i:Int))=some (xJ b):=yq h _;have q0:atD (xJ b) 0=U8 (b.low:Int):=rfl;have q1:atD (xJ b) 1=U8 (b.keys:Int):=rfl;have q2:atD (xJ b) 2=Bo b.pedal:=rfl;simp only[zgp,zK,xI,y6,uj,zR,zr,zb,zaO hlt,zu,if_true,ix,q0,q1,q2,e1,e2,e3,e4,e5,zbe,zd6,e6,e7,e8,ll,y3,Yzz,Yza,jO,YzJ,Yz6,ef,wv,ea,w7,zmx];rw[<-uH (f:=enV)];rfl
  rw[zW body,ih (i+1) _ (yl h) (by simp[ha])];simp[jj]
theorem zuJ(n:Nat)(hn:0<n)(hn3:n<=1000)(l:Sl Lnk)(hll:l.els.length<=3)(hb:∀b∈l.els,b.ok)(nm rk:DV)(dv:OC):
  ∀(r:List Lnk) (i:Nat) (acc:List Cpl),l.els.drop i=r->acc.length=i->
  z6 (zgn (enL 4 zeP l) (I6 (n:Int))) [I6 (i:Int),nm,rk] [dv,ocL enC (grow acc)]=some (.exit 6,[nm,rk],[dv,ocL enC (grow (acc++zbX n i r))]):=by
 intro r
 induction r with
 |nil=>grind[zz,zgn,zK,xI,y6,uj,zR,zr,zb,vE,yz,zu,zbX]
 |cons b r ih=>
  intro i acc h ha;have hlt:=y7 h;have hbb:=hb b (Lz3 (xh h));have ea:zg .add (I6 (i:Int)) (I6 1)=some (I6 ((i+1:Nat):Int)):=yW;have e4:zg .add (I6 48) (I6 (i:Int))=some (I6 (48+(i:Int))):=yW;have e5:zZ .u8 (I6 (48+(i:Int)))=some (U8 (48+(i:Int))):=by show some (DV.int .u8 (xZ .u8 (48+(i:Int))))=_;rw[zjG];congr 2;omega
  have g1:zZ .i64 (U8 (b.src:Int))=some (I6 (b.src:Int)):=by have:=hbb.src;exact wN
  have g2:zg .rem (I6 (b.src:Int)) (I6 (n:Int))=some (I6 ((b.src % n:Nat):Int)):=zaH (by omega);have g3:zZ .i64 (U8 (b.dst:Int))=some (I6 (b.dst:Int)):=by have:=hbb.dst;exact wN
  have g4:zg .rem (I6 (b.dst:Int)) (I6 (n:Int))=some (I6 ((b.dst % n:Nat):Int)):=zaH (by omega);have g5:zZ .i64 (.int .i8 b.shift)=some (I6 b.shift):=by have:=hbb.s1;have:=hbb.s2;exact wN
  have g6:zg .rem (I6 b.shift) (I6 25)=some (I6 (b.shift.tmod 25)):=zbd _ _ _ (by decide);have ef:fits 48 ((grow acc).els.length+1)=true:=y8 (by decide) (by grind[yO]);have body:zgn (enL 4 zeP l) (I6 (n:Int)) [I6 (i:Int),nm,rk] [dv,ocL enC (grow acc)]=some (.normal,[I6 ((i+1:Nat):Int),nm,rk],[dv,ocL enC (grow (acc++[zrI n i b]))]):=by
   rw[wH,<-uH (f:=enC)];simp only[zgn,zK,xI,y6,uj,zR,zr,zb,zaO hlt,zu,if_true,yq h,zeP,xU,vK,e4,e5,zbe,zd6,g1,g2,g3,g4,g5,g6,we,jO,YzJ,Yz6,ef,wv,ea,w7];unfold zrI enC;by_cases h1:((b.src % n:Nat):Int)=((b.dst % n:Nat):Int)
   .by_cases h2:b.shift.tmod 25=0<;>grind
   .grind
  rw[zW body,ih (i+1) _ (yl h) (by simp[ha])];simp[zbX]
theorem qN{p:Pln}(h:kR p=true):1<=p.ranks.els.length/\p.ranks.els.length<=3/\1<=p.divs.els.length/\p.divs.els.length<=3/\p.cpls.els.length<=3/\∀b∈p.divs.els,b.stops.els.length<=3:=by grind[kR,zhr]
theorem zsC{α:Type}{l:List α}(h:0<l.length):grow l=some l:=by cases l with|nil=>simp at h|cons _ _=>rfl
theorem t22(k:Nat)(p:Pln)(hp:p.ok)(hf:kR p=true):D (k+7) 22 [SA (zhC p)]=some (SA (enO (zfE p))):=by obtain⟨f1,f2,f3,f4,f5,f6⟩:=qN hf;have hlen:(jh 0 p.ranks.els).length=p.ranks.els.length:=qx _ _;have l2:=zxa (k+4) p.ranks f2 hp.ranks (St zfv) p.ranks.els 0 [] rfl rfl;have l12:=zuL k (jh 0 p.ranks.els) (by omega) (by omega) (zdi _ _) p.divs f4 hp.divs f6 (St zfv) p.divs.els 0 [] rfl rfl;have l43:=zuJ p.divs.els.length (by omega) (by omega) p.cpls f5 hp.cpls (St zfv) (enL 6 enR (some (jh 0 p.ranks.els))) (ocL enV (grow (jj (jh 0 p.ranks.els) 0 p.divs.els))) p.cpls.els 0 [] rfl rfl;rw[show ocL enR (grow ([]:List Zk))=none from rfl,show (I6 ((0:Nat):Int):DV)=I6 0 from rfl,Yz9]at l2;rw[show ocL enV (grow ([]:List Zo))=none from rfl,show (I6 ((0:Nat):Int):DV)=I6 0 from rfl,Yz9]at l12;rw[show ocL enC (grow ([]:List Cpl))=none from rfl,show (I6 ((0:Nat):Int):DV)=I6 0 from rfl,Yz9]at l43;have hg:grow (jh 0 p.ranks.els)=some (jh 0 p.ranks.els):=zsC (by omega);simp_all[zhC,D22,P22,zfE,enO,zfv]
end Go.Proofs.Tryz.Kn
end
section
namespace Go.Proofs.Tryz.Kn
open Go Go.CE Go.PE
theorem zaM:∀(l:List RPl) (i:Nat),∀r∈jh i l,ki r
 | [],_,_,h=>by cases h
 |x::l,i,r,h=>by
  rcases Yzv.1 h with rfl|h
  .show (kF x (1+x.pipes % 25)).length<=_
   grind[zfa]
  .exact zaM l _ r h
theorem kL(rs:List Zk)(low high:Int):∀(l:List Pul) (i:Nat),(vF rs low high i l).length=l.length
 | [],_=>rfl
 |_::l,i=>by simp[vF,kL rs low high l]
theorem jM(rs:List Zk):∀(l:List Boa) (i:Nat),(jj rs i l).length=l.length
 | [],_=>rfl
 |_::l,i=>by simp[jj,jM rs l]
theorem zaj(n:Nat):∀(l:List Lnk) (i:Nat),(zbX n i l).length=l.length
 | [],_=>rfl
 |_::l,i=>by simp[zbX,zaj n l]
theorem zbW(rs:List Zk)(low high:Int):∀(l:List Pul) (i:Nat),∀s∈vF rs low high i l,s.ok
 | [],_,_,h=>by cases h
 |x::l,i,s,h=>by
  rcases Yzv.1 h with rfl|h
  .have hall:∀n sh m sh2 a kd,(wQ low high n sh m sh2 a kd).length<=2/\∀g∈wQ low high n sh m sh2 a kd,g.draws.els.length<=2:=by
    intro n sh m sh2 a kd;unfold wQ
    grind
   obtain⟨q1,q2⟩:=hall ((x.rank % rs.length:Nat):Int) (shf (fB x.feet) (rkF (zik rs (x.rank % rs.length)))) (((x.rank % rs.length+1) % rs.length:Nat):Int)
    (shf (fB x.feet) (rkF (zik rs ((x.rank % rs.length+1) % rs.length)))) (low+((x.at_:Int).tmod (high-low+1))) (x.kind % 6)
   refine⟨?_,fun g hg=>?_⟩
   .show (wQ _ _ _ _ _ _ _ _).length<=_;omega
   .have:=q2 g hg;show g.draws.els.length<=_;omega
  .exact zbW rs low high l _ s h
theorem zrJ(p:Pln)(hf:kR p=true):(zfE p).ok:=by
 obtain⟨f1,f2,f3,f4,f5,f6⟩:=qN hf;have hd:∀(rs:List Zk) (l:List Boa) (i:Nat),(∀b∈l,b.stops.els.length<=3)->∀d∈jj rs i l,d.ok:=by
  intro rs l
  induction l with
  |nil=>intro i _ d h;cases h
  |cons b l ih=>
   intro i H d h;rcases Yzv.1 h with rfl|h
   .have:=H b (Yzk ..);refine⟨?_,fun s hs=>?_⟩
    .show (grow (vF rs (zgy b) (zcN b) 0 b.stops.els)).els.length<=_
     grind[yO,kL]
    .have hs:s∈(grow (vF rs (zgy b) (zcN b) 0 b.stops.els)).els:=hs
     grind[yO,zbW]
   .grind
 unfold zfE;refine⟨?_,fun r hr=>?_,?_,fun d h=>?_,?_⟩<;>grind[yO,qx,zaM,jM,zaj]
end Go.Proofs.Tryz.Kn
end
section
namespace Go.Proofs.Tryz.Kn
open Go Go.CE Go.PE
def zsZ(a b:Int):Int:=IntKind.wrap .u64 (BitVec.ofInt IntKind.u64.bits a &&& BitVec.ofInt IntKind.u64.bits b).toNat
theorem ziz(a b:Int):zg .and (U64 a) (U64 b)=some (U64 (zsZ a b)):=by rfl
def zta(a:Int)(n:Nat):Int:=Int.fdiv a (2^(min n 64))
theorem zyc{k:IntKind}(a:Int)(n:Nat):vQ false (U64 a) (.int k (n:Int))=some (U64 (zta a n)):=by rfl
theorem zh0{m:Nat}(h:m<=4611686018427387904):xZ .u64 (m:Int)=(m:Int):=by grind[zqL]
theorem zrn{k:IntKind}{n:Nat}(h:n<=62):vQ true (U64 1) (.int k (n:Int))=some (U64 ((2^n:Nat):Int)):=by
 have h0:ltI (n:Int) 0=false:=by rfl
 show oD (zeK .u64 1 (n:Int))=_;unfold zeK;rw[h0,Yzc];have hm:min (n:Int).toNat IntKind.u64.bits=n:=by rw[Int.toNat_natCast];show min n 64=n;omega
 rw[hm];have hp:(2^n:Nat)<=2^62:=Nat.pow_le_pow_right (by decide) h;have e:Int.mul 1 (2^n)=((2^n:Nat):Int):=by simp
 rw[e,zh0 (Yzl hp (by decide))];rfl
theorem zwr{n:Nat}(h:n<=62):zg .sub (U64 ((2^n:Nat):Int)) (U64 1)=some (U64 ((2^n-1:Nat):Int)):=by
 have hp:(2^n:Nat)<=2^62:=Nat.pow_le_pow_right (by decide) h
 grind[ziy,zh0]
theorem zyj(a b:Int):zg .neq (U64 a) (U64 b)=some (Bo (!(a==b))):=yC _ _ _
abbrev enU(n:Int):List DV:=[U64 n]
structure Reg where
 stops:Sl Int
 cpls:Int
 off:Int
def zfW(r:Reg):List DV:=[enL 1 enU r.stops,U64 r.cpls,U64 r.off]
def zdd:List Zo->List Int->Bool
 |d::ds,s::ss=>!(zta s d.stops.els.length==0)||zdd ds ss
 |_,_=>false
def zc6(o:Org)(r:Reg):Int:=
 if qr o≠0 then qr o else if r.stops.els.length≠o.divs.els.length then 5 else if zdd o.divs.els r.stops.els=true then 3
 else if zta r.cpls o.cpls.els.length≠0 then 3 else if zta r.off o.divs.els.length≠0 then 3 else 0
theorem l12(dv:Sl Zo)(hd:dv.els.length<=9223372036854775807)(st:Sl Int)(hl:st.els.length=dv.els.length):∀(ds:List Zo) (ss:List Int) (i:Nat),dv.els.drop i=ds->st.els.drop i=ss->
  z6 (zn0 (I6 (dv.els.length:Int)) (enL 5 enV dv) (enL 1 enU st)) [I6 (i:Int)] []=some (if zdd ds ss=true then(.ret,[I6 3],[]) else(.exit 0,[],[])):=by
 intro ds
 induction ds with
 |nil=>
  intro ss i h _;refine zz ?_
  grind[zn0,zK,zr,zb,vE,yz,zu]
 |cons d ds ih=>
  intro ss i h h';have h1:=y7 h;cases ss with
  |nil=>have:=yz h';omega
  |cons s ss=>
   have ea:zg .add (I6 (i:Int)) (I6 1)=some (I6 ((i+1:Nat):Int)):=yW;have body:zn0 (I6 (dv.els.length:Int)) (enL 5 enV dv) (enL 1 enU st) [I6 (i:Int)] []=some (if zta s d.stops.els.length=0 then(.normal,[I6 ((i+1:Nat):Int)],[]) else(.ret,[I6 3],[])):=by
    simp only[zn0,zK,zr,zb,zaO h1,zu,if_true,yq h,yq h',enV,xU,vK,zR,zyc,zyj,ea]
    grind
   by_cases hc:zta s d.stops.els.length=0
   .rw[Yzd hc]at body;rw[zW body,ih ss (i+1) (yl h) (yl h')];grind[zdd]
   .rw[Yzb hc]at body;grind[zC,zdd]
theorem t12(k:Nat)(o:Org)(ho:o.ok)(r:Reg):D (k+10) 12 [SA (enO o),SA (zfW r)]=some (S1 (I6 (zc6 o r))):=by
 have c:=t11 k o ho;unfold enO at c ⊢;unfold zfW;rw[D12];unfold P12 zc6;simp only[c,zV,yC,zb,zu,zR];by_cases h1:qr o=0
 .by_cases h2:r.stops.els.length=o.divs.els.length
  .have e:(!((r.stops.els.length:Int)==(o.divs.els.length:Int)))=false:=by simp[h2]
   have l:=l12 o.divs ho.dl r.stops h2 o.divs.els r.stops.els 0 rfl rfl;simp only[h1,h2,beq_self_eq_true,Bool.not_true,Yzq,if_false,ne_eq,not_true_eq_false];rw[show (I6 0:DV)=I6 ((0:Nat):Int) from rfl,l];cases zdd o.divs.els r.stops.els with
   |true=>rfl
   |false=>
    simp only[Yzq,if_false,y3,Yzz,Yza,zyc,zb,zyj,zu]
    grind
  .grind
 grind
theorem znJ{β:Type}(o:Org)(K:List DV->Option β):bA 4 (some (SA (enO o))) K=K (enO o):=rfl
theorem zqE(o:Org):[atD (enO o) 0,atD (enO o) 1,atD (enO o) 2,atD (enO o) 3]=enO o:=rfl
def zhe(n:Nat):Int:=((2^n-1:Nat):Int)
def zrM(d:Zo):Int:=zhe d.stops.els.length
def enB(b:Nat->Nat):List DV:=[U8 (b 0:Int),U8 (b 1:Int),U8 (b 2:Int),U8 (b 3:Int),U8 (b 4:Int)]
def zcj(b:Nat->Nat):Nat->List Zo->List Int
 |_,[]=>[]
 |i,d::r=>zsZ (b (i % 3):Int) (zrM d)::zcj b (i+1) r
def zji(o:Org)(b:Nat->Nat):Reg:=⟨grow (zcj b 0 o.divs.els),zsZ (b 3:Int) (zhe o.cpls.els.length),zsZ (b 4:Int) (zhe o.divs.els.length)⟩
theorem l23(b:Nat->Nat)(hb:∀i,b i<256)(dv:Sl Zo)(hl:dv.els.length<=1000)(hs:∀d∈dv.els,d.stops.els.length<=60)(c0 c1:DV):∀(r:List Zo) (i:Nat) (acc:List Int),dv.els.drop i=r->acc.length=i->
  z6 (zgm (enL 5 enV dv) (U8 (b 0:Int)) (U8 (b 1:Int)) (U8 (b 2:Int)) (U8 (b 3:Int)) (U8 (b 4:Int))) [I6 (i:Int),c0,c1] [ocL enU (grow acc)]=some (.exit 0,[c0,c1],[ocL enU (grow (acc++zcj b i r))]):=by
 intro r
 induction r with
 |nil=>grind[zz,zgm,zK,xI,y6,zR,zr,zb,vE,yz,zu,zcj]
 |cons d r ih=>
  intro i acc h ha;have h1:=y7 h;have hd:=hs d (Lz3 (xh h));have ea:zg .add (I6 (i:Int)) (I6 1)=some (I6 ((i+1:Nat):Int)):=yW;have e1:zg .rem (I6 (i:Int)) (I6 3)=some (I6 ((i % 3:Nat):Int)):=zaH (b:=3) (by decide);have h3:i % 3<3:=Yzt _ (by decide);have e2:j4 5 (I6 ((i % 3:Nat):Int))=some (i % 3):=zbc (by omega);have e3:atD [U8 (b 0:Int),U8 (b 1:Int),U8 (b 2:Int),U8 (b 3:Int),U8 (b 4:Int)] (i % 3)=U8 (b (i % 3):Int):=by
   have:i % 3=0\/i % 3=1\/i % 3=2:=by omega
   rcases this with h|h|h<;>rw[h]<;>rfl
  have hbb:=hb (i % 3);have e4:zZ .u64 (U8 (b (i % 3):Int))=some (U64 (b (i % 3):Int)):=zf0 (by omega);have e5:zZ .u64 (I6 (d.stops.els.length:Int))=some (U64 (d.stops.els.length:Int)):=zf0 (by omega);have sh:vQ true (U64 1) (U64 (d.stops.els.length:Int))=some (U64 ((2^d.stops.els.length:Nat):Int)):=zrn (by omega);have sb:zg .sub (U64 ((2^d.stops.els.length:Nat):Int)) (U64 1)=some (U64 (zrM d)):=zwr (by omega);have ef:fits 8 ((grow acc).els.length+1)=true:=y8 (by decide) (by grind[yO]);have body:zgm (enL 5 enV dv) (U8 (b 0:Int)) (U8 (b 1:Int)) (U8 (b 2:Int)) (U8 (b 3:Int)) (U8 (b 4:Int)) [I6 (i:Int),c0,c1] [ocL enU (grow acc)]=some (.normal,[I6 ((i+1:Nat):Int),c0,c1],[ocL enU (grow (acc++[zsZ (b (i % 3):Int) (zrM d)]))]):=by rw[wH,<-uH (f:=enU)];simp only[zgm,zK,xI,y6,zR,zr,zb,zaO h1,zu,if_true,e1,e2,e3,e4,yq h,enV,xU,vK,e5,sh,sb,ziz,jO,YzJ,Yz6,ef,wv,ea,w7]
  rw[zW body,ih (i+1) _ (yl h) (by simp[ha])];simp[zcj]
theorem t23(k:Nat)(o:Org)(b:Nat->Nat)(hb:∀i,b i<256)(hd:o.divs.els.length<=60)(hs:∀d∈o.divs.els,d.stops.els.length<=60)(hc:o.cpls.els.length<=60):D (k+1) 23 [SA (enO o),SA (enB b)]=some (SA (zfW (zji o b))):=by
 have h3:=hb 3;have h4:=hb 4
 have e3:zZ .u64 (U8 (b 3:Int))=some (U64 (b 3:Int)):=zf0 (by omega);have e4:zZ .u64 (U8 (b 4:Int))=some (U64 (b 4:Int)):=zf0 (by omega);have f3:zZ .u64 (I6 (o.cpls.els.length:Int))=some (U64 (o.cpls.els.length:Int)):=zf0 (by omega);have f4:zZ .u64 (I6 (o.divs.els.length:Int))=some (U64 (o.divs.els.length:Int)):=zf0 (by omega);have s3:vQ true (U64 1) (U64 (o.cpls.els.length:Int))=some (U64 ((2^o.cpls.els.length:Nat):Int)):=zrn (by omega);have s4:vQ true (U64 1) (U64 (o.divs.els.length:Int))=some (U64 ((2^o.divs.els.length:Nat):Int)):=zrn (by omega);have g3:zg .sub (U64 ((2^o.cpls.els.length:Nat):Int)) (U64 1)=some (U64 (zhe o.cpls.els.length)):=zwr (by omega);have g4:zg .sub (U64 ((2^o.divs.els.length:Nat):Int)) (U64 1)=some (U64 (zhe o.divs.els.length)):=zwr (by omega);have l:=l23 b hb o.divs (by omega) hs (U64 (zsZ (b 3:Int) (zhe o.cpls.els.length))) (U64 (zsZ (b 4:Int) (zhe o.divs.els.length))) o.divs.els 0 [] rfl rfl;rw[show ocL enU (grow ([]:List Int))=none from rfl,Yz9]at l;unfold enO enB;rw[D23];unfold P23;simp only[zb,xU,vK,e3,e4,zR,f3,f4,s3,s4,g3,g4,ziz];rw[show (I6 0:DV)=I6 ((0:Nat):Int) from rfl,l];simp only[y3,Yzz,Yza,y6,zK,xI,zmx];rfl
theorem zaN(rs:List Zk):∀(l:List Boa) (i:Nat),(∀b∈l,b.stops.els.length<=3)->∀d∈jj rs i l,d.stops.els.length<=3
 | [],_,_,_,h=>by cases h
 |b::l,i,H,d,h=>by
  rcases Yzv.1 h with rfl|h
  .have:=H b (Yzk ..);show (grow (vF rs (zgy b) (zcN b) 0 b.stops.els)).els.length<=3
   grind[yO,kL]
  .exact zaN rs l (i+1) (fun x hx=>H x (Yzi _ hx)) d h
theorem zdk(p:Pln)(hf:kR p=true):(zfE p).divs.els.length<=3/\(∀d∈(zfE p).divs.els,d.stops.els.length<=3)/\(zfE p).cpls.els.length<=3:=by grind[qN,zfE,yO,jM,zaN,zaj]
theorem zsU{β:Type}(r:Reg)(K:List DV->Option β):bA 3 (some (SA (zfW r))) K=K (zfW r):=rfl
theorem zgd(l:List (List DV)):zT (some []) l=some l:=by cases l<;>rfl
theorem ztc{α:Type}{f:α->List DV}{st off:Nat}{l:List α}{i:Nat}{x x':α}{ds:List DV}(hx:l[i]? = some x)(hle:off+ds.length<=st)(h:(f x).take off++ds++(f x).drop (off+ds.length)=f x'):
  uV st (some (l.map f)) i off ds=some (some ((l.set i x').map f)):=by
 simp_all[uV,Yze]
end Go.Proofs.Tryz.Kn
end
section
namespace Go.Proofs.Tryz.Kn
open Go Go.CE Go.PE
section
variable {β:Type} {x y:Int} {k:DV->Option β} {a b:Option β}
theorem zsH(h:x=y):za (zg .eql (I6 x) (I6 y)) k=k (Bo true):=by rw[we,zb,h,beq_self_eq_true]
theorem zpJ(h:¬x=y):za (zg .eql (I6 x) (I6 y)) k=k (Bo false):=by rw[we,zb,show (x==y)=false from beq_eq_false_iff_ne.2 h]
theorem zg6(h:¬x=y):za (zg .neq (I6 x) (I6 y)) k=k (Bo true):=by rw[yC,zb,show (x==y)=false from beq_eq_false_iff_ne.2 h];rfl
theorem zrF(h:x=y):za (zg .neq (I6 x) (I6 y)) k=k (Bo false):=by rw[yC,zb,h,beq_self_eq_true];rfl
theorem qF:ifB (Bo true) a b=a:=rfl
theorem zfL:ifB (Bo false) a b=b:=rfl
theorem zwY:za (zec (Bo true)) k=k (Bo false):=rfl
end
def ze8(m n:Int):Bool:=decide (n<0)||decide (m<n)
theorem zvw(F:DV->DV->List DV->List OC->Option PX)(m:Int)(id:Nat)(a c:Int)
  (h0:F (I6 a) (I6 c) [I6 0] []=some (if ze8 m a then(.ret,[I6 3],[]) else(.normal,[I6 1],[])))
  (h1:F (I6 a) (I6 c) [I6 1] []=some (if ze8 m c then(.ret,[I6 3],[]) else(.normal,[I6 2],[])))
  (h2:F (I6 a) (I6 c) [I6 2] []=some (.exit id,[],[])):
  z6 (F (I6 a) (I6 c)) [I6 0] []=some (zna id (if ze8 m a||ze8 m c then 3 else 0)):=by
 cases ha:ze8 m a with
 |true=>rw[ha,Yzd rfl]at h0;rw[zC h0];rfl
 |false=>
  rw[ha,Yzb (by decide)]at h0;rw[zW h0];cases hc:ze8 m c with
  |true=>rw[hc,Yzd rfl]at h1;rw[zC h1];rfl
  |false=>rw[hc,Yzb (by decide)]at h1;rw[zW h1,zz h2];rfl
def zgN(hn hs fn fs:Int):Int:=if ze8 10 hn||ze8 10 fn then 3 else if ze8 127 hs||ze8 127 fs then 3 else 0
theorem zyb:j4 2 (I6 0)=some 0:=zbc (i:=0) (by decide)
theorem zya:j4 2 (I6 1)=some 1:=zbc (i:=1) (by decide)
theorem a01:zg .add (I6 0) (I6 1)=some (I6 1):=yW
theorem a11:zg .add (I6 1) (I6 1)=some (I6 2):=yW
theorem t13(k:Nat)(hn hs fn fs:Int):D (k+1) 13 [SA [I6 hn,I6 hs,I6 fn,I6 fs]]=some (S1 (I6 (zgN hn hs fn fs))):=by
  have l1:=zvw (fun a c=>zp3 a c) 10 0 hn fn
    (by simp only [zp3, zK, zr, zb, zyb, xU, yd, zu, a01, ze8]
        grind)
    (by simp only [zp3, zK, zr, zb, zya, xU, vK, yd, zu, a11, ze8]
        grind)
    (by rfl)
  have l2:=zvw (fun a c=>zgr a c) 127 2 hs fs
    (by simp only [zgr, zK, zr, zb, zyb, xU, yd, zu, a01, ze8]
        grind)
    (by simp only [zgr, zK, zr, zb, zya, xU, vK, yd, zu, a11, ze8]
        grind)
    (by rfl)
  rw[D13];unfold P13 zgN;rw[l1];cases h1:(ze8 10 hn||ze8 10 fn) with
  |true=>rfl
  |false=>show xa (z6 (zgr (I6 hs) (I6 fs)) [I6 0] []) _ _=_;rw[l2];cases h2:(ze8 127 hs||ze8 127 fs)<;>rfl
end Go.Proofs.Tryz.Kn
end
section
namespace Go.Proofs.Tryz.Kn
open Go Go.CE Go.PE
theorem pick(l:List (List DV))(h:0<l.length)(a:Nat):∃x∈l,∀{β:Type} (K:List DV->Option β),za (yn (some l) (U8 ((a % l.length:Nat):Int))) (fun n=>za (j5 (some l) n) K)=K x:=by have hi:a % l.length<l.length:=Yzt _ h;refine⟨l[a % l.length],List.getElem_mem hi,fun K=>?_⟩;rw[wy hi,zb];show za (l[a % l.length]?) K=_;rw[Lz5 hi];rfl
theorem vS{nm:ByteArray}{rs:List Zk}{dv:Sl Zo}{cp:List Cpl}(h1:rs.length<=1000)(h2:∀r∈rs,ki r)(h3:dv.els.length<=1000)(h4:∀d∈dv.els,d.ok)(h5:cp.length<=1000):Org.ok ⟨nm,some rs,dv,some cp⟩:=
 ⟨by show rs.length<=_;omega,h2,by show dv.els.length<=_;omega,h4,by show cp.length<=_;omega⟩
theorem zbu{α:Type}{q:α->Prop}{l:List α}{i:Nat}{x:α}(h:∀a∈l,q a)(hx:q x):∀a∈l.set i x,q a:=fun _ ha=>(List.mem_or_eq_of_mem_set ha).elim (h _) (fun e=>e▸hx)
theorem zcT(n:Nat)(hn:n<=100):∃v w:Int,zg .quo (I6 (n:Int)) (I6 10)=some (I6 ((n / 10:Nat):Int))/\zg .add (I6 48) (I6 ((n / 10:Nat):Int))=some (I6 v)/\zZ .u8 (I6 v)=some (U8 v)/\
  zg .rem (I6 (n:Int)) (I6 10)=some (I6 ((n % 10:Nat):Int))/\zg .add (I6 48) (I6 ((n % 10:Nat):Int))=some (I6 w)/\zZ .u8 (I6 w)=some (U8 w):=by
 have h1:n % 10<10:=Yzt _ (by decide);have h2:n / 10<=10:=by omega
 have c:∀v:Int,0<=v->v<=255->zZ .u8 (I6 v)=some (U8 v):=fun v a b=>by show some (DV.int .u8 (xZ .u8 v))=_;rw[zjG];congr 2;omega
 exact⟨48+((n / 10:Nat):Int),48+((n % 10:Nat):Int),zy2 (b:=10) (by decide) (wrap64 (by omega) (by omega)),yW,c _ (by omega) (by omega),zaH (b:=10) (by decide),yW,c _ (by omega) (by omega)⟩
theorem zib(c:UInt8)(v w:Int){β:Type}(K:DV->Option β):za (zgw (.lst 1 [[U8 v],[U8 w]])) (fun s=>za (zgv .add (.str ⟨#[c]⟩) s) K)=K (St (⟨#[c]⟩++jY [v,w] ByteArray.empty)):=rfl
theorem zou(c:UInt8)(v:Int){β:Type}(K:DV->Option β):za (zgw (.lst 1 [[U8 v]])) (fun s=>za (zgv .add (.str ⟨#[c]⟩) s) K)=K (St (⟨#[c]⟩++jY [v] ByteArray.empty)):=rfl
theorem zw9(a:Nat)(nm:DV)(m1 m2:OC):∀(m:Nat) (l:List Zk),0<l.length->l.length<=60+a % 2->60+a % 2-l.length=m->(∀r∈l,ki r)->
  ∃l':List Zk,l'.length<=61/\(∀r∈l',ki r)/\z6 (znR (U8 (a:Int))) [nm] [some (l.map enR),m1,m2]=some (.exit 1,[nm],[some (l'.map enR),m1,m2]):=by
 have e1:zg .rem (U8 (a:Int)) (U8 2)=some (U8 ((a % 2:Nat):Int)):=zaH (b:=2) (by decide);have ha:a % 2<2:=Yzt _ (by decide);have e2:zZ .i64 (U8 ((a % 2:Nat):Int))=some (I6 ((a % 2:Nat):Int)):=wN;have e3:zg .add (I6 60) (I6 ((a % 2:Nat):Int))=some (I6 ((60+a % 2:Nat):Int)):=by rw[show ((60+a % 2:Nat):Int)=60+((a % 2:Nat):Int) by omega];exact yW
 intro m
 induction m with
 |zero=>intro l h0 h1 h2 h3;refine⟨l,by omega,h3,zz ?_⟩;have:decide ((l.length:Int)<((60+a % 2:Nat):Int))=false:=vE (by omega);simp only[znR,e1,e2,e3,zb,y6,uj,zK,xL,Yzh,vC,zr,this,zu];rfl
 |succ m ih=>
  intro l h0 h1 h2 h3;have hlt:decide ((l.length:Int)<((60+a % 2:Nat):Int))=true:=zaO (by omega);obtain⟨x,hx⟩:∃x,l[0]? = some x:=⟨_,Lz5 h0⟩;obtain⟨v,w,q1,q2,q3,q4,q5,q6⟩:=zcT l.length (by omega);have ix:yn (some (l.map enR)) (I6 0)=some 0:=by rw[show (I6 0:DV)=I6 ((0:Nat):Int) from rfl];exact wy (by rw[Yzh];exact h0)
  have nx:j5 (some (l.map enR)) 0=some (enR x):=by rw[jL,hx];rfl
  have ef:fits 80 (l.length+1)=true:=y8 (by decide) (by omega)
  let y:Zk:=⟨⟨#[88]⟩++jY [v,w] ByteArray.empty,x.tone,x.num,x.den,x.first,x.wind⟩
  have hy:ki y:=h3 x (Lz3 hx);have body:znR (U8 (a:Int)) [nm] [some (l.map enR),m1,m2]=some (.normal,[nm],[some ((l++[y]).map enR),m1,m2]):=by simp only[znR,e1,e2,e3,zb,y6,uj,zK,xL,Yzh,vC,zr,hlt,zu,if_true,ix,nx,q1,q2,q3,q4,q5,q6,zib,ef,wv,xx];rw[Yye];rfl
  obtain⟨l',g1,g2,g3⟩:=ih (l++[y]) (by simp) (by simp;omega) (by simp;omega) (fun r hr=>by
   rcases List.mem_append.1 hr with hr|hr
   .exact h3 r hr
   .rw[Yz4.1 hr];exact hy)
  exact⟨l',g1,g2,by rw[zW body,g3]⟩
theorem zw7(a:Nat)(nm:DV)(m1 m2:OC):∀(m:Nat) (l:List Zo),l.length<=8+a % 2->8+a % 2-l.length=m->(∀r∈l,r.ok)->
  ∃l':List Zo,l <+: l'/\l'.length<=9/\(∀r∈l',r.ok)/\z6 (znQ (U8 (a:Int))) [nm] [m1,some (l.map enV),m2]=some (.exit 3,[nm],[m1,some (l'.map enV),m2]):=by
 have e1:zg .rem (U8 (a:Int)) (U8 2)=some (U8 ((a % 2:Nat):Int)):=zaH (b:=2) (by decide);have ha:a % 2<2:=Yzt _ (by decide);have e2:zZ .i64 (U8 ((a % 2:Nat):Int))=some (I6 ((a % 2:Nat):Int)):=wN;have e3:zg .add (I6 8) (I6 ((a % 2:Nat):Int))=some (I6 ((8+a % 2:Nat):Int)):=by rw[show ((8+a % 2:Nat):Int)=8+((a % 2:Nat):Int) by omega];exact yW
 intro m
 induction m with
 |zero=>intro l h1 h2 h3;refine⟨l,List.prefix_refl l,by omega,h3,zz ?_⟩;have:decide ((l.length:Int)<((8+a % 2:Nat):Int))=false:=vE (by omega);simp only[znQ,e1,e2,e3,zb,y6,uj,zK,xL,Yzh,vC,zr,this,zu];rfl
 |succ m ih=>
  intro l h1 h2 h3;have hlt:decide ((l.length:Int)<((8+a % 2:Nat):Int))=true:=zaO (by omega);have q2:zg .add (I6 48) (I6 (l.length:Int))=some (I6 (48+(l.length:Int))):=yW;have q3:zZ .u8 (I6 (48+(l.length:Int)))=some (U8 (48+(l.length:Int))):=by show some (DV.int .u8 (xZ .u8 (48+(l.length:Int))))=_;rw[zjG];congr 2;omega
  have ef:fits 64 (l.length+1)=true:=y8 (by decide) (by omega)
  let y:Zo:=⟨⟨#[69]⟩++jY [48+(l.length:Int)] ByteArray.empty,false,0,0,none⟩
  have hy:y.ok:=⟨by show (0:Nat)<=_;omega,fun s hs=>by cases hs⟩;have body:znQ (U8 (a:Int)) [nm] [m1,some (l.map enV),m2]=some (.normal,[nm],[m1,some ((l++[y]).map enV),m2]):=by simp only[znQ,e1,e2,e3,zb,y6,uj,zK,xL,Yzh,vC,zr,hlt,zu,if_true,q2,q3,zou,ef,wv,xx];rw[Yye];rfl
  obtain⟨l',g0,g1,g2,g3⟩:=ih (l++[y]) (by simp;omega) (by simp;omega) (fun r hr=>by
   rcases List.mem_append.1 hr with hr|hr
   .exact h3 r hr
   .rw[Yz4.1 hr];exact hy)
  exact⟨l',(List.prefix_append l [y]).trans g0,g1,g2,by rw[zW body,g3]⟩
theorem zuM(a:Nat)(c0 c1 c2 c3:DV):∀(m:Nat) (l:List Zr),0<l.length->l.length<=60+a % 2->60+a % 2-l.length=m->(∀r∈l,r.ok)->
  ∃l':List Zr,l'.length<=61/\(∀r∈l',r.ok)/\z6 (zgh (U8 (a:Int))) [c0,c1,c2,c3] [some (l.map yu)]=some (.exit 5,[c0,c1,c2,c3],[some (l'.map yu)]):=by
 have e1:zg .rem (U8 (a:Int)) (U8 2)=some (U8 ((a % 2:Nat):Int)):=zaH (b:=2) (by decide);have ha:a % 2<2:=Yzt _ (by decide);have e2:zZ .i64 (U8 ((a % 2:Nat):Int))=some (I6 ((a % 2:Nat):Int)):=wN;have e3:zg .add (I6 60) (I6 ((a % 2:Nat):Int))=some (I6 ((60+a % 2:Nat):Int)):=by rw[show ((60+a % 2:Nat):Int)=60+((a % 2:Nat):Int) by omega];exact yW
 intro m
 induction m with
 |zero=>intro l h0 h1 h2 h3;refine⟨l,by omega,h3,zz ?_⟩;have:decide ((l.length:Int)<((60+a % 2:Nat):Int))=false:=vE (by omega);simp only[zgh,e1,e2,e3,zb,y6,zK,xI,xL,Yzh,vC,zr,this,zu];rfl
 |succ m ih=>
  intro l h0 h1 h2 h3;have hlt:decide ((l.length:Int)<((60+a % 2:Nat):Int))=true:=zaO (by omega);obtain⟨x,hx⟩:∃x,l[0]? = some x:=⟨_,Lz5 h0⟩;obtain⟨v,w,q1,q2,q3,q4,q5,q6⟩:=zcT l.length (by omega);have ix:yn (some (l.map yu)) (I6 0)=some 0:=by rw[show (I6 0:DV)=I6 ((0:Nat):Int) from rfl];exact wy (by rw[Yzh];exact h0)
  have nx:j5 (some (l.map yu)) 0=some (yu x):=by rw[jL,hx];rfl
  have ef:fits 56 (l.length+1)=true:=y8 (by decide) (by omega)
  let y:Zr:=⟨⟨#[89]⟩++jY [v,w] ByteArray.empty,x.num,x.den,x.segs⟩
  have hy:y.ok:=⟨(h3 x (Lz3 hx)).len,(h3 x (Lz3 hx)).segs⟩;have body:zgh (U8 (a:Int)) [c0,c1,c2,c3] [some (l.map yu)]=some (.normal,[c0,c1,c2,c3],[some ((l++[y]).map yu)]):=by simp only[zgh,e1,e2,e3,zb,y6,zK,xI,xL,Yzh,vC,zr,hlt,zu,if_true,ix,nx,q1,q2,q3,q4,q5,q6,zib,ef,wv,xx];rw[Yye];rfl
  obtain⟨l',g1,g2,g3⟩:=ih (l++[y]) (by simp) (by simp;omega) (by simp;omega) (fun r hr=>by
   rcases List.mem_append.1 hr with hr|hr
   .exact h3 r hr
   .rw[Yz4.1 hr];exact hy)
  exact⟨l',g1,g2,by rw[zW body,g3]⟩
set_option maxHeartbeats 4000000 in
theorem t9(k:Nat)(o:Org)(ho:o.ok)(hr0:0<o.ranks.els.length)(hr3:o.ranks.els.length<=3)(hd0:0<o.divs.els.length)(hd3:o.divs.els.length<=3)(hc3:o.cpls.els.length<=3)(hs3:∀d∈o.divs.els,d.stops.els.length<=3)(kd a:Nat)(ha:a<256):
  ∃o2:Org,o2.ok/\D (k+1) 9 [SA (enO o),SA [U8 (kd:Int),U8 (a:Int)]]=some (SA (enO o2)):=by
 obtain⟨nm,rk,dd,cc⟩:=o;have hrk:=ho.ranks;have hdk:=ho.divs;simp only at hr0 hr3 hd0 hd3 hc3 hs3 hrk hdk;generalize hrs:rk.els=rs at hr0 hr3 hrk;generalize hdv:dd.els=dv at hd0 hd3 hs3 hdk;generalize hcp:cc.els=cp at hc3;unfold enO;rw[D9];unfold P9;have g1:fits 80 (0+rs.length)=true:=y8 (by decide) (by omega);have g2:fits 64 (0+dv.length)=true:=y8 (by decide) (by omega);have g3:fits 48 (0+cp.length)=true:=y8 (by decide) (by omega);have e1:zZ .i64 (U8 (a:Int))=some (I6 (a:Int)):=wN;have e2:zg .rem (I6 (a:Int)) (I6 (rs.length:Int))=some (I6 ((a % rs.length:Nat):Int)):=zaH (by omega);have e3:zg .rem (I6 (a:Int)) (I6 (dv.length:Int))=some (I6 ((a % dv.length:Nat):Int)):=zaH (by omega);have hj:a % rs.length<rs.length:=Yzt _ hr0;have hi:a % dv.length<dv.length:=Yzt _ hd0;generalize a % rs.length=j at e2 hj;generalize a % dv.length=i at e3 hi;obtain⟨r,hr⟩:∃r,rs[j]? = some r:=⟨_,Lz5 hj⟩;obtain⟨d,hd⟩:∃d,dv[i]? = some d:=⟨_,Lz5 hi⟩;have hrm:=hrk r (Lz3 hr);have hdm:=hdk d (Lz3 hd);have hsm:=hs3 d (Lz3 hd);have ixd:yn (some (dv.map enV)) (I6 (i:Int))=some i:=wy (by rw[Yzh];exact hi);have ixr:yn (some (rs.map enR)) (I6 (j:Int))=some j:=wy (by rw[Yzh];exact hj);have nxd:j5 (some (dv.map enV)) i=some (enV d):=by rw[jL,hd];rfl
 have lt:decide ((i:Int)<(dv.length:Int))=true:=zaO hi;have q4:atD (enV d) 4=enL 4 yu d.stops:=rfl;have g4:fits 56 (0+d.stops.els.length)=true:=y8 (by decide) (by omega);have m4:zg .rem (U8 (a:Int)) (U8 4)=some (U8 ((a % 4:Nat):Int)):=zaH (b:=4) (by decide);have m3:zg .rem (U8 (a:Int)) (U8 3)=some (U8 ((a % 3:Nat):Int)):=zaH (b:=3) (by decide);have std:∀d':Zo,uV 5 (some (dv.map enV)) i 0 (enV d')=some (some ((dv.set i d').map enV)):=fun d'=>ztc hd (Lz4 rfl) rfl;have d0:uV 5 (some (dv.map enV)) i 0 [atD (enV d) 0,atD (enV d) 1,atD (enV d) 2,atD (enV d) 3,mkL 4 (some (d.stops.els.map yu))]=some (some ((dv.set i ⟨d.name,d.pedal,d.low,d.high,some d.stops.els⟩).map enV)):=std ⟨d.name,d.pedal,d.low,d.high,some d.stops.els⟩;have okd:∀(nm':ByteArray) (lo hi':Int),Zo.ok ⟨nm',d.pedal,lo,hi',some d.stops.els⟩:=fun _ _ _=>⟨by show d.stops.els.length<=_;omega,hdm.stops⟩;have dvok:∀d':Zo,d'.ok->∀x∈dv.set i d',x.ok:=fun d' h=>zbu hdk h;have em:zg .rem (U8 (kd:Int)) (U8 16)=some (U8 ((kd % 16:Nat):Int)):=zaH (b:=16) (by decide);have hk:kd % 16<16:=Yzt _ (by decide);generalize kd % 16=q at em hk;simp only[zdc,hrs,hdv,hcp,zb,xL,Yz6,Yzh,g1,g2,g3,wv,zgd,e1,vC,e2,e3,ixd,nxd,q4,g4,em,we,zu,zr,lt,if_true,d0];have hq:q=0\/q=1\/q=2\/q=3\/q=4\/q=5\/q=6\/q=7\/q=8\/q=9\/q=10\/q=11\/q=12\/q=13\/q=14\/q=15:=by omega
 have dflt:∃o2:Org,o2.ok/\(some (SA [St nm,mkL 6 (some (rs.map enR)),mkL 5 (some ((dv.set i ⟨d.name,d.pedal,d.low,d.high,some d.stops.els⟩).map enV)),mkL 5 (some (cp.map enC))]):Option DA)=some (SA (enO o2)):=
  ⟨⟨nm,some rs,some (dv.set i ⟨d.name,d.pedal,d.low,d.high,some d.stops.els⟩),some cp⟩,vS (by omega) hrk (by rw[y9,Yzs];omega) (dvok _ (okd _ _ _)) (by omega),rfl⟩
 rcases hq with h|h|h|h|h|h|h|h|h|h|h|h|h|h|h|h<;>subst h
 .exact dflt
 ·
  obtain⟨x,hx,pk⟩:=pick [[St ⟨#[]⟩],[St ⟨#[55]⟩],[St ⟨#[97,32,98]⟩],[St ⟨#[70,105,110,101]⟩]] (by decide) a;obtain⟨s,rfl⟩:∃s,x=[St s]:=by simp only[Yzv,Yzp,or_false]at hx;rcases hx with rfl|rfl|rfl|rfl<;>exact⟨_,rfl⟩
  have pk':∀{β:Type} (K:List DV->Option β),za (yn (some [[(.str ⟨#[]⟩)],[(.str ⟨#[55]⟩)],[(.str ⟨#[97,32,98]⟩)],[(.str ⟨#[70,105,110,101]⟩)]]) (U8 ((a % 4:Nat):Int))) (fun n=>za (j5 (some [[(.str ⟨#[]⟩)],[(.str ⟨#[55]⟩)],[(.str ⟨#[97,32,98]⟩)],[(.str ⟨#[70,105,110,101]⟩)]]) n) K)=K [St s]:=pk;refine⟨⟨s,some rs,some (dv.set i ⟨d.name,d.pedal,d.low,d.high,some d.stops.els⟩),some cp⟩,vS (by omega) hrk (by rw[y9,Yzs];omega) (dvok _ (okd _ _ _)) (by omega),?_⟩;rw[Yzd (by rfl)];simp only[m4,zb,pk',xU];rfl
 ·
  have sr:uV 6 (some (rs.map enR)) j 5 [.nils]=some (some ((rs.set j ⟨r.name,r.tone,r.num,r.den,r.first,none⟩).map enR)):=ztc hr (Lz4 rfl) rfl;refine⟨⟨nm,some (rs.set j ⟨r.name,r.tone,r.num,r.den,r.first,none⟩),some (dv.set i ⟨d.name,d.pedal,d.low,d.high,some d.stops.els⟩),some cp⟩,vS (by rw[Yzs];omega) (zbu hrk (by show (0:Nat)<=_;omega)) (by rw[y9,Yzs];omega) (dvok _ (okd _ _ _)) (by omega),?_⟩;rw[Yzb (by decide),Yzd (by rfl)];simp only[ixr,zb,sr];rfl
 ·
  obtain⟨x,hx,pk⟩:=pick [[St ⟨#[]⟩],[St ⟨#[82,48]⟩],[St ⟨#[82,57]⟩]] (by decide) a;obtain⟨s,rfl⟩:∃s,x=[St s]:=by simp only[Yzv,Yzp,or_false]at hx;rcases hx with rfl|rfl|rfl<;>exact⟨_,rfl⟩
  have pk':∀{β:Type} (K:List DV->Option β),za (yn (some [[(.str ⟨#[]⟩)],[(.str ⟨#[82,48]⟩)],[(.str ⟨#[82,57]⟩)]]) (U8 ((a % 3:Nat):Int))) (fun n=>za (j5 (some [[(.str ⟨#[]⟩)],[(.str ⟨#[82,48]⟩)],[(.str ⟨#[82,57]⟩)]]) n) K)=K [St s]:=pk;have sr:uV 6 (some (rs.map enR)) j 0 [St s]=some (some ((rs.set j ⟨s,r.tone,r.num,r.den,r.first,r.wind⟩).map enR)):=ztc hr (Lz4 rfl) rfl;refine⟨⟨nm,some (rs.set j ⟨s,r.tone,r.num,r.den,r.first,r.wind⟩),some (dv.set i ⟨d.name,d.pedal,d.low,d.high,some d.stops.els⟩),some cp⟩,vS (by rw[Yzs];omega) (zbu hrk hrm) (by rw[y9,Yzs];omega) (dvok _ (okd _ _ _)) (by omega),?_⟩;rw[Yzb (by decide),Yzb (by decide),Yzd (by rfl)];simp only[m3,zb,pk',ixr,xU,sr];rfl
 ·
  obtain⟨l',h1,h2,h3⟩:=zw9 a (St nm) (some (dv.map enV)) (some (cp.map enC)) (60+a % 2-rs.length) rs hr0 (by omega) rfl hrk;refine⟨⟨nm,some l',some (dv.set i ⟨d.name,d.pedal,d.low,d.high,some d.stops.els⟩),some cp⟩,vS (by omega) h2 (by rw[y9,Yzs];omega) (dvok _ (okd _ _ _)) (by omega),?_⟩;rw[Yzb (by decide),Yzb (by decide),Yzb (by decide),Yzd (by rfl),h3];simp only[y3,Yzz,Yza,y6,uj,zK,xL,Yzh,lt,ixd,zb,d0,if_true];rfl
 ·
  refine⟨⟨nm,some rs,none,some cp⟩,vS (by omega) hrk (by show (0:Nat)<=_;omega) (fun x hx=>by cases hx) (by omega),?_⟩;have hneg:decide ((i:Int)<0)=false:=decide_eq_false (by omega);rw[Yzb (by decide),Yzb (by decide),Yzb (by decide),Yzb (by decide),Yzd (by rfl)];simp only[zlY,zb,zr,zu,hneg];rfl
 ·
  obtain⟨l',hp,h1,h2,h3⟩:=zw7 a (St nm) (some (rs.map enR)) (some (cp.map enC)) (8+a % 2-dv.length) dv (by omega) rfl hdk;have hi':i<l'.length:=Lz9 hi hp.length_le;have hd':l'[i]? = some d:=by obtain⟨t,rfl⟩:=hp;rw[Lz2 hi];exact hd
  have lt':decide ((i:Int)<(l'.length:Int))=true:=zaO hi';have ixd':yn (some (l'.map enV)) (I6 (i:Int))=some i:=wy (by rw[Yzh];exact hi');have d0':uV 5 (some (l'.map enV)) i 0 [atD (enV d) 0,atD (enV d) 1,atD (enV d) 2,atD (enV d) 3,mkL 4 (some (d.stops.els.map yu))]=some (some ((l'.set i ⟨d.name,d.pedal,d.low,d.high,some d.stops.els⟩).map enV)):=ztc (x':=⟨d.name,d.pedal,d.low,d.high,some d.stops.els⟩) hd' (Lz4 rfl) rfl;refine⟨⟨nm,some rs,some (l'.set i ⟨d.name,d.pedal,d.low,d.high,some d.stops.els⟩),some cp⟩,vS (by omega) hrk (by rw[y9,Yzs];omega) (zbu h2 (okd _ _ _)) (by omega),?_⟩;rw[Yzb (by decide),Yzb (by decide),Yzb (by decide),Yzb (by decide),Yzb (by decide),Yzd (by rfl),h3];simp only[y3,Yzz,Yza,y6,uj,zK,xL,Yzh,lt',ixd',zb,d0',if_true];rfl
 ·
  obtain⟨x,hx,pk⟩:=pick [[St ⟨#[]⟩],[St ⟨#[68,48]⟩],[St ⟨#[68,49]⟩],[St ⟨#[83,111,108,111]⟩]] (by decide) a;obtain⟨s,rfl⟩:∃s,x=[St s]:=by simp only[Yzv,Yzp,or_false]at hx;rcases hx with rfl|rfl|rfl|rfl<;>exact⟨_,rfl⟩
  have pk':∀{β:Type} (K:List DV->Option β),za (yn (some [[(.str ⟨#[]⟩)],[(.str ⟨#[68,48]⟩)],[(.str ⟨#[68,49]⟩)],[(.str ⟨#[83,111,108,111]⟩)]]) (U8 ((a % 4:Nat):Int))) (fun n=>za (j5 (some [[(.str ⟨#[]⟩)],[(.str ⟨#[68,48]⟩)],[(.str ⟨#[68,49]⟩)],[(.str ⟨#[83,111,108,111]⟩)]]) n) K)=K [St s]:=pk;have dn:uV 5 (some (dv.map enV)) i 0 [St s,atD (enV d) 1,atD (enV d) 2,atD (enV d) 3,mkL 4 (some (d.stops.els.map yu))]=some (some ((dv.set i ⟨s,d.pedal,d.low,d.high,some d.stops.els⟩).map enV)):=std ⟨s,d.pedal,d.low,d.high,some d.stops.els⟩;refine⟨⟨nm,some rs,some (dv.set i ⟨s,d.pedal,d.low,d.high,some d.stops.els⟩),some cp⟩,vS (by omega) hrk (by rw[y9,Yzs];omega) (dvok _ (okd _ _ _)) (by omega),?_⟩;rw[Yzb (by decide),Yzb (by decide),Yzb (by decide),Yzb (by decide),Yzb (by decide),Yzb (by decide),Yzd (by rfl)];simp only[m4,zb,pk',xU,dn];rfl
 ·
  obtain⟨x,hx,pk⟩:=pick [[I6 (-1),I6 40],[I6 50,I6 40],[I6 0,I6 128],[I6 0,I6 127]] (by decide) a;obtain⟨lo,hi2,rfl⟩:∃lo hi2,x=[I6 lo,I6 hi2]:=by simp only[Yzv,Yzp,or_false]at hx;rcases hx with rfl|rfl|rfl|rfl<;>exact⟨_,_,rfl⟩
  have pk':∀{β:Type} (K:List DV->Option β),za (yn (some [[(I6 (-1)),(I6 40)],[(I6 50),(I6 40)],[(I6 0),(I6 128)],[(I6 0),(I6 127)]]) (U8 ((a % 4:Nat):Int))) (fun n=>za (j5 (some [[(I6 (-1)),(I6 40)],[(I6 50),(I6 40)],[(I6 0),(I6 128)],[(I6 0),(I6 127)]]) n) K)=K [I6 lo,I6 hi2]:=pk;have dn:uV 5 (some (dv.map enV)) i 0 [atD (enV d) 0,atD (enV d) 1,I6 lo,I6 hi2,mkL 4 (some (d.stops.els.map yu))]=some (some ((dv.set i ⟨d.name,d.pedal,lo,hi2,some d.stops.els⟩).map enV)):=std ⟨d.name,d.pedal,lo,hi2,some d.stops.els⟩;refine⟨⟨nm,some rs,some (dv.set i ⟨d.name,d.pedal,lo,hi2,some d.stops.els⟩),some cp⟩,vS (by omega) hrk (by rw[y9,Yzs];omega) (dvok _ (okd _ _ _)) (by omega),?_⟩;rw[Yzb (by decide),Yzb (by decide),Yzb (by decide),Yzb (by decide),Yzb (by decide),Yzb (by decide),Yzb (by decide),Yzd (by rfl)];simp only[m4,zb,pk',xU,vK,dn];rfl
 ·
  rw[Yzb (by decide),Yzb (by decide),Yzb (by decide),Yzb (by decide),Yzb (by decide),Yzb (by decide),Yzb (by decide),Yzb (by decide),Yzd (by rfl)];simp only[yd,zb,zu];by_cases h0:0<d.stops.els.length
  .have h0':(0:Int)<(d.stops.els.length:Int):=by omega
   obtain⟨s,hs⟩:∃s,d.stops.els[0]? = some s:=⟨_,Lz5 h0⟩;have ixs:yn (some (d.stops.els.map yu)) (I6 0)=some 0:=by rw[show (I6 0:DV)=I6 ((0:Nat):Int) from rfl];exact wy (by rw[Yzh];exact h0)
   have nxs:j5 (some (d.stops.els.map yu)) 0=some (yu s):=by rw[jL,hs];rfl
   obtain⟨x,hx,pk⟩:=pick [[St ⟨#[]⟩],[St ⟨#[83,49]⟩],[St ⟨#[84]⟩],[St ⟨#[83,50]⟩]] (by decide) a;obtain⟨t,rfl⟩:∃t,x=[St t]:=by simp only[Yzv,Yzp,or_false]at hx;rcases hx with rfl|rfl|rfl|rfl<;>exact⟨_,rfl⟩
   have pk':∀{β:Type} (K:List DV->Option β),za (yn (some [[(.str ⟨#[]⟩)],[(.str ⟨#[83,49]⟩)],[(.str ⟨#[84]⟩)],[(.str ⟨#[83,50]⟩)]]) (U8 ((a % 4:Nat):Int))) (fun n=>za (j5 (some [[(.str ⟨#[]⟩)],[(.str ⟨#[83,49]⟩)],[(.str ⟨#[84]⟩)],[(.str ⟨#[83,50]⟩)]]) n) K)=K [St t]:=pk;have ss:uV 4 (some (d.stops.els.map yu)) 0 0 [St t,atD (yu s) 1,atD (yu s) 2,atD (yu s) 3]=some (some ((d.stops.els.set 0 ⟨t,s.num,s.den,s.segs⟩).map yu)):=ztc (x':=⟨t,s.num,s.den,s.segs⟩) hs (Lz4 rfl) rfl;have dn:uV 5 (some (dv.map enV)) i 0 [atD (enV d) 0,atD (enV d) 1,atD (enV d) 2,atD (enV d) 3,mkL 4 (some ((d.stops.els.set 0 ⟨t,s.num,s.den,s.segs⟩).map yu))]=some (some ((dv.set i ⟨d.name,d.pedal,d.low,d.high,some (d.stops.els.set 0 ⟨t,s.num,s.den,s.segs⟩)⟩).map enV)):=std ⟨d.name,d.pedal,d.low,d.high,some (d.stops.els.set 0 ⟨t,s.num,s.den,s.segs⟩)⟩;have hsok:=hdm.stops s (Lz3 hs);refine⟨⟨nm,some rs,some (dv.set i ⟨d.name,d.pedal,d.low,d.high,some (d.stops.els.set 0 ⟨t,s.num,s.den,s.segs⟩)⟩),some cp⟩,vS (by omega) hrk (by rw[y9,Yzs];omega) (dvok _ ⟨by show (List.set _ _ _).length<=_;rw[Yzs];omega,zbu hdm.stops ⟨hsok.len,hsok.segs⟩⟩) (by omega),?_⟩;rw[Yzd (by simpa using h0')];simp only[ixs,zb,nxs,m4,pk',xU,ss,dn];rfl
  .have h0':¬((0:Int)<(d.stops.els.length:Int)):=by omega
   rw[Yzb (by simpa using h0')];exact dflt
 ·
  rw[Yzb (by decide),Yzb (by decide),Yzb (by decide),Yzb (by decide),Yzb (by decide),Yzb (by decide),Yzb (by decide),Yzb (by decide),Yzb (by decide),Yzd (by rfl)];simp only[yd,zb,zu];by_cases h0:0<d.stops.els.length
  .have h0':(0:Int)<(d.stops.els.length:Int):=by omega
   obtain⟨l',h1,h2,h3⟩:=zuM a (atD (enV d) 0) (atD (enV d) 1) (atD (enV d) 2) (atD (enV d) 3) (60+a % 2-d.stops.els.length) d.stops.els h0 (by omega) rfl hdm.stops;have dn:uV 5 (some (dv.map enV)) i 0 [atD (enV d) 0,atD (enV d) 1,atD (enV d) 2,atD (enV d) 3,mkL 4 (some (l'.map yu))]=some (some ((dv.set i ⟨d.name,d.pedal,d.low,d.high,some l'⟩).map enV)):=std ⟨d.name,d.pedal,d.low,d.high,some l'⟩;refine⟨⟨nm,some rs,some (dv.set i ⟨d.name,d.pedal,d.low,d.high,some l'⟩),some cp⟩,vS (by omega) hrk (by rw[y9,Yzs];omega) (dvok _ ⟨by show l'.length<=_;omega,h2⟩) (by omega),?_⟩;rw[Yzd (by simpa using h0'),h3];simp only[y3,Yzz,Yza,y6,zK,xI,ixd,zb,dn];rfl
  .have h0':¬((0:Int)<(d.stops.els.length:Int)):=by omega
   rw[Yzb (by simpa using h0')];exact dflt
 ·
  have vb:vwB none (some (I6 (j:Int))) rs.length=some (0,j):=by unfold vwB;rw[zvx (by omega)];rfl
  refine⟨⟨nm,some (rs.take j),some (dv.set i ⟨d.name,d.pedal,d.low,d.high,some d.stops.els⟩),some cp⟩,vS (by rw[List.length_take];omega) (fun x hx=>hrk x (List.mem_of_mem_take hx)) (by rw[y9,Yzs];omega) (dvok _ (okd _ _ _)) (by omega),?_⟩;rw[Yzb (by decide),Yzb (by decide),Yzb (by decide),Yzb (by decide),Yzb (by decide),Yzb (by decide),Yzb (by decide),Yzb (by decide),Yzb (by decide),Yzb (by decide),Yzd (by rfl)];simp only[vb,zb];have pt:zgW 6 0 j (mkL 6 (some (rs.map enR)))=enL 6 enR (some (rs.take j)):=by show (bif Nat.beq 6 6 then DV.lst 6 (((rs.map enR).drop 0).take j) else .u)=_;rw[List.drop_zero,<-List.map_take];rfl
  rw[pt];rfl
 ·
  have m5:zg .rem (U8 (a:Int)) (U8 5)=some (U8 ((a % 5:Nat):Int)):=zaH (b:=5) (by decide);have h5:a % 5<5:=Yzt _ (by decide);have c5:zZ .i64 (U8 ((a % 5:Nat):Int))=some (I6 ((a % 5:Nat):Int)):=wN;have ef:fits 48 (cp.length+1)=true:=y8 (by decide) (by omega);refine⟨⟨nm,some rs,some (dv.set i ⟨d.name,d.pedal,d.low,d.high,some d.stops.els⟩),some (cp++[⟨⟨#[67,57]⟩,((a % 5:Nat):Int),0,1,false⟩])⟩,vS (by omega) hrk (by rw[y9,Yzs];omega) (dvok _ (okd _ _ _)) (by simp;omega),?_⟩;rw[Yzb (by decide),Yzb (by decide),Yzb (by decide),Yzb (by decide),Yzb (by decide),Yzb (by decide),Yzb (by decide),Yzb (by decide),Yzb (by decide),Yzb (by decide),Yzb (by decide),Yzd (by rfl)];simp only[m5,c5,zb,ef,wv,xx];rw[wW,wW,wW,Yye];rfl
 ·
  obtain⟨x,hx,pk⟩:=pick [[St ⟨#[]⟩],[St ⟨#[67,48]⟩],[St ⟨#[68,48]⟩]] (by decide) a;obtain⟨s,rfl⟩:∃s,x=[St s]:=by simp only[Yzv,Yzp,or_false]at hx;rcases hx with rfl|rfl|rfl<;>exact⟨_,rfl⟩
  have pk':∀{β:Type} (K:List DV->Option β),za (yn (some [[(.str ⟨#[]⟩)],[(.str ⟨#[67,48]⟩)],[(.str ⟨#[68,48]⟩)]]) (U8 ((a % 3:Nat):Int))) (fun n=>za (j5 (some [[(.str ⟨#[]⟩)],[(.str ⟨#[67,48]⟩)],[(.str ⟨#[68,48]⟩)]]) n) K)=K [St s]:=pk;have ef:fits 48 (cp.length+1)=true:=y8 (by decide) (by omega);refine⟨⟨nm,some rs,some (dv.set i ⟨d.name,d.pedal,d.low,d.high,some d.stops.els⟩),some (cp++[⟨s,0,0,1,false⟩])⟩,vS (by omega) hrk (by rw[y9,Yzs];omega) (dvok _ (okd _ _ _)) (by simp;omega),?_⟩;rw[Yzb (by decide),Yzb (by decide),Yzb (by decide),Yzb (by decide),Yzb (by decide),Yzb (by decide),Yzb (by decide),Yzb (by decide),Yzb (by decide),Yzb (by decide),Yzb (by decide),Yzb (by decide),Yzd (by rfl)];simp only[m3,pk',zb,ef,wv,xx,xU];rw[wW,wW,wW,Yye];rfl
 .exact dflt
 .exact dflt
end Go.Proofs.Tryz.Kn
end
section
namespace Go.Proofs.Tryz.Kn
open Go Go.CE Go.PE
structure GPl where
 org:Pln
 b:Nat->Nat
 h0:Nat
 h1:Nat
 h2:Nat
 h3:Nat
structure GPl.ok (p:GPl):Prop where
 org:p.org.ok
 b:∀i,p.b i<256
 h0:p.h0<256
 h1:p.h1<256
 h2:p.h2<256
 h3:p.h3<256
def zeQ(p:GPl):List DV:=[enL 9 za5 p.org.ranks,enL 4 xJ p.org.divs,enL 4 zeP p.org.cpls,U8 (p.b 0:Int),U8 (p.b 1:Int),U8 (p.b 2:Int),U8 (p.b 3:Int),U8 (p.b 4:Int),U8 (p.h0:Int),U8 (p.h1:Int),U8 (p.h2:Int),U8 (p.h3:Int)]
def zdt(p:GPl):Bool:=kR p.org&&decide (p.org.divs.els.length<=2)
theorem t8(k:Nat)(p:GPl)(hp:p.ok):D (k+2) 8 [SA (zeQ p)]=some (S1 (Bo (zdt p))):=by
 have cf:=t21 k p.org hp.org;unfold zhC at cf;unfold zeQ;rw[D8];unfold P8 zdt;rw[cf,zV];cases kR p.org with
 |false=>rfl
 |true=>rw[qF,zR,zb,qo,zb,Yyc];have:decide ((p.org.divs.els.length:Int)<=2)=decide (p.org.divs.els.length<=2):=decide_eq_decide.2 (by omega);rw[this]
def kb(b:Boa):Boa:={ b with keys:=b.keys % 4 }
def kbP(p:Pln):Pln:=⟨p.ranks,some (p.divs.els.map kb),p.cpls⟩
theorem ziT(p:Pln):kR (kbP p)=kR p:=by
 unfold kR kbP zhr;have:(p.divs.els.map kb).all (fun b=>decide (b.stops.els.length<=3))=p.divs.els.all fun b=>decide (b.stops.els.length<=3):=by rw[List.all_map];rfl
 show (decide _&&decide _&&decide (1<=(p.divs.els.map kb).length)&&decide ((p.divs.els.map kb).length<=3)&&decide _&&(p.divs.els.map kb).all _)=_;rw[Yzh,this]
theorem zuP(p:Pln)(h:p.ok):(kbP p).ok:=by obtain⟨h1,h2,h3,h4,h5,h6⟩:=h;refine⟨h1,h2,by show (p.divs.els.map kb).length<=_;rw[Yzh];exact h3,fun x hx=>?_,h5,h6⟩;obtain⟨y,hy,rfl⟩:=List.mem_map.1 hx;obtain⟨g1,g2,g3,g4⟩:=h4 y hy;exact⟨g1,Nat.lt_trans (Yzt _ (by decide)) (by decide),g3,g4⟩
theorem zw8:∀(r pre:List Boa),pre.length+r.length<=1000->
  z6 zn2 [I6 (pre.length:Int)] [some ((pre.map kb++r).map xJ)]=some (.exit 0,[],[some (((pre++r).map kb).map xJ)]):=by
 intro r
 induction r with
 |nil=>intro pre _;refine zz ?_;simp only[zn2,zK,y6,zr,zb,zu,List.append_nil];rw[Yzb (by simp[xu])]
 |cons x r ih=>
  intro pre hl;rw[YzJ]at hl;have ea:zg .add (I6 (pre.length:Int)) (I6 1)=some (I6 ((pre.length+1:Nat):Int)):=yW;have hx:(pre.map kb++x::r)[pre.length]? = some x:=by simp
  have ix:yn (some ((pre.map kb++x::r).map xJ)) (I6 (pre.length:Int))=some pre.length:=wy (by simp);have nx:j5 (some ((pre.map kb++x::r).map xJ)) pre.length=some (xJ x):=by show ((pre.map kb++x::r).map xJ)[pre.length]? = _;rw[Lz6,hx];rfl
  have rm:zg .rem (U8 (x.keys:Int)) (U8 4)=some (U8 ((x.keys % 4:Nat):Int)):=zaH (b:=4) (by decide);have st:uV 4 (some ((pre.map kb++x::r).map xJ)) pre.length 1 [U8 ((x.keys % 4:Nat):Int)]=some (some (((pre.map kb++x::r).set pre.length (kb x)).map xJ)):=ztc hx (Lz4 rfl) rfl;have se:(pre.map kb++x::r).set pre.length (kb x)=(pre++[x]).map kb++r:=by have:=List.set_append_right (s:=pre.map kb) (t:=x::r) (i:=pre.length) (x:=kb x) (by simp);simp_all
  have lt:decide ((pre.length:Int)<(Int.ofNat (xu (some ((pre.map kb++x::r).map xJ)))))=true:=decide_eq_true (by simp[xu];omega);have body:zn2 [I6 (pre.length:Int)] [some ((pre.map kb++x::r).map xJ)]=some (.normal,[I6 ((pre.length+1:Nat):Int)],[some (((pre++[x]).map kb++r).map xJ)]):=by simp only[zn2,zK,y6,zr,zb,lt,zu,if_true,ix,nx];rw[show atD (xJ x) 1=U8 (x.keys:Int) from rfl,rm,zb,st,zb,ea,zb,se]
  rw[zW body];have h:=ih (pre++[x]) (by rw[Yz3,List.length_singleton];omega);rw[Yz3,List.length_singleton]at h;rw[h,Yz0];rfl
def enQ(o:Org)(r:Reg)(a b c d:Int):List DV:=[St o.name,enL 6 enR o.ranks,enL 5 enV o.divs,enL 5 enC o.cpls,enL 1 enU r.stops,U64 r.cpls,U64 r.off,I6 a,I6 b,I6 c,I6 d]
theorem zvc(o:Org)(r:Reg)(a b c d:Int):[atD (enQ o r a b c d) 0,atD (enQ o r a b c d) 1,atD (enQ o r a b c d) 2,atD (enQ o r a b c d) 3]=enO o:=rfl
theorem zvz{β:Type}(o:Org)(r:Reg)(a b c d:Int)(K:List DV->Option β):bA 11 (some (SA (enQ o r a b c d))) K=K (enQ o r a b c d):=rfl
theorem t10(k:Nat)(p:GPl)(hp:p.ok)(hf:zdt p=true):D (k+8) 10 [SA (zeQ p)] =
  some (SA (enQ (zfE (kbP p.org)) (zji (zfE (kbP p.org)) p.b) ((p.h0 % 4:Nat):Int) ((p.h1 % 6:Nat):Int) ((p.h2 % 3:Nat):Int) ((p.h3 % 6:Nat):Int))):=by
 unfold zdt at hf;rw[LzC]at hf;have hk:kR (kbP p.org)=true:=by rw[ziT];exact hf.1
 have hd:=of_decide_eq_true hf.2;have mk:=t22 k (kbP p.org) (zuP _ hp.org) hk;unfold zhC at mk;obtain⟨s1,s2,s3⟩:=zdk (kbP p.org) hk;have dr:=t23 (k+6) (zfE (kbP p.org)) p.b hp.b (by omega) (fun d hd=>Yzl (s2 d hd) (by decide)) (by omega);unfold enB at dr;have rm:∀(a b:Nat),b≠0->zg .rem (U8 (a:Int)) (U8 (b:Int))=some (U8 ((a % b:Nat):Int)):=fun a b hb=>zaH hb;have cv:∀(a:Nat),a<256->zZ .i64 (U8 (a:Int))=some (I6 (a:Int)):=fun a ha=>wN;have m4:p.h0 % 4<256:=Nat.lt_trans (Yzt _ (by decide)) (by decide);have m6:p.h1 % 6<256:=Nat.lt_trans (Yzt _ (by decide)) (by decide);have m3:p.h2 % 3<256:=Nat.lt_trans (Yzt _ (by decide)) (by decide);have m7:p.h3 % 6<256:=Nat.lt_trans (Yzt _ (by decide)) (by decide);have r4:zg .rem (U8 (p.h0:Int)) (U8 4)=some (U8 ((p.h0 % 4:Nat):Int)):=rm _ 4 (by decide);have r6:zg .rem (U8 (p.h1:Int)) (U8 6)=some (U8 ((p.h1 % 6:Nat):Int)):=rm _ 6 (by decide);have r3:zg .rem (U8 (p.h2:Int)) (U8 3)=some (U8 ((p.h2 % 3:Nat):Int)):=rm _ 3 (by decide);have r7:zg .rem (U8 (p.h3:Int)) (U8 6)=some (U8 ((p.h3 % 6:Nat):Int)):=rm _ 6 (by decide);have ff:fits 32 (xu (some [])+(p.org.divs.els.map xJ).length)=true:=y8 (by decide) (by rw[xL,Yzh];simp;omega);have l3:=zw8 p.org.divs.els [] (by simp;omega);rw[show (I6 (([]:List Boa).length:Int):DV)=I6 0 from rfl,List.map_nil,Yz9]at l3;have eL:mkL 4 (some ((p.org.divs.els.map kb).map xJ))=enL 4 xJ (kbP p.org).divs:=rfl;unfold zeQ;rw[D10];unfold P10;rw[zdc,zb,ff,wv,zgd,l3,y3,Yzz,Yza,y6,eL];rw[show enL 9 za5 p.org.ranks=enL 9 za5 (kbP p.org).ranks from rfl,show enL 4 zeP p.org.cpls=enL 4 zeP (kbP p.org).cpls from rfl,mk,znJ,zqE,dr,zsU];simp only[xU,vK,r4,r6,r3,r7,zb,cv _ m4,cv _ m6,cv _ m3,cv _ m7];rfl
def j9(o:Org)(r:Reg)(a b c d:Int):Int:=if qr o≠0 then qr o else if zc6 o r≠0 then zc6 o r else zgN a b c d
variable (k:Nat) (o:Org) (ho:o.ok) (r:Reg) (a b c d:Int)
include ho
theorem t14:D (k+12) 14 [SA (enQ o r a b c d)]=some (S1 (I6 (j9 o r a b c d))):=by
 have c1:=t11 (k+2) o ho;have c2:=t12 (k+1) o ho r;have c3:=t13 (k+10) a b c d;unfold enO at c1 c2;unfold zfW at c2;unfold enQ;rw[D14];unfold P14 j9;rw[c1,zV];by_cases e1:qr o=0
 .rw[zrF e1,zfL,c2,zV,Yzb (by simp[e1])];by_cases e2:zc6 o r=0
  .rw[zrF e2,zfL,c3,zV,Yzb (by simp[e2])]
  rw[zg6 e2,qF,Yzd e2]
 rw[zg6 e1,qF,Yzd e1]
variable (h:j9 o r a b c d≠0)
include h
theorem zys(x:DV):D (k+13) 29 [SA (enQ o r a b c d),S1 x]=some (S1 (I6 (j9 o r a b c d))):=by have c:=t14 k o ho r a b c d;unfold enQ at c ⊢;rw[D29];unfold P29;rw[c,zV,zg6 h,qF]
theorem zyt(x:DV):D (k+14) 15 [SA (enQ o r a b c d),S1 x]=some (.tup [.one (Bo false),.one (I6 (j9 o r a b c d))]):=by have c:=zys k o ho r a b c d h (.lst 1 [[x]]);unfold enQ at c ⊢;rw[D15];unfold P15;rw[c,zsW,zg6 h,qF]
theorem zzJ(x y:DV):D (k+14) 16 [SA (enQ o r a b c d),S1 x,S1 y]=some (.tup [.one (I6 0),.one (I6 (j9 o r a b c d))]):=by have c:=zys k o ho r a b c d h (.lst 1 [[x],[y]]);unfold enQ at c ⊢;rw[D16];unfold P16;rw[c,zsW,zg6 h,qF]
theorem e_7:D (k+13) 7 [SA (enQ o r a b c d)]=some (.tup [.agg [.nils,I6 0,.nils],.one (I6 (j9 o r a b c d))]):=by have c:=t14 k o ho r a b c d;unfold enQ at c ⊢;rw[D7];unfold P7;rw[c,zV,zg6 h,qF]
theorem zzI(x y z:DV):D (k+15) 17 [SA (enQ o r a b c d),SA [x,y,z]]=some (S1 (I6 (j9 o r a b c d))):=by have c:=zyt k o ho r a b c d h x;unfold enQ at c ⊢;rw[D17];unfold P17;have b2:∀{β:Type} (x y:DV) (K:List DS->Option β),bT [none,none] (some (.tup [.one x,.one y])) K=K [.one x,.one y]:=fun x y K=>rfl;have ed:∀x y:DV,dsO (wX [DS.one x,.one y] 1)=y:=fun x y=>rfl;rw[c,b2];simp only[ed];rw[zg6 h,qF]
end Go.Proofs.Tryz.Kn
end
section
namespace Go.Proofs.Tryz.Kn
open Go Go.CE Go.PE
theorem zzD(k:Nat)(o:Org)(ho:o.ok)(r:Reg)(a b c d:Int):
  zhY (D (k+15)) (I6 (j9 o r a b c d)) (enO o) (enL 1 enU r.stops) (U64 r.cpls) (U64 r.off) (I6 a) (I6 b) (I6 c) (I6 d)=some (S1 (Bo true)):=by
 have e0:[atD (enO o) 0,atD (enO o) 1,atD (enO o) 2,atD (enO o) 3,enL 1 enU r.stops,U64 r.cpls,U64 r.off,I6 a,I6 b,I6 c,I6 d]=enQ o r a b c d:=rfl;have ee:∀e:Int,zg .eql (I6 e) (I6 e)=some (Bo true):=fun e=>by rw[we,beq_self_eq_true]
 unfold zhY;rw[e0];by_cases h:j9 o r a b c d=0
 .rw[zsH h,qF]
 .have c1:=zyt (k+1) o ho r a b c d h .nils;have c2:=zzJ (k+1) o ho r a b c d h .nils .nils;have c3:=e_7 (k+2) o ho r a b c d h;have c4:=zzI k o ho r a b c d h .nils (I6 0) .nils;have b2:∀{β:Type} (x y:DV) (K:List DS->Option β),bT [none,none] (some (.tup [.one x,.one y])) K=K [.one x,.one y]:=fun x y K=>rfl;have b3:∀{β:Type} (x y z v:DV) (K:List DS->Option β),bT [some 3,none] (some (.tup [.agg [x,y,z],.one v])) K=K [.agg [x,y,z],.one v]:=fun x y z v K=>rfl;rw[zpJ h,zfL,c1,b2,c2,b2,c3,b3];generalize hg:j9 o r a b c d=e at *;show (za (zg .eql (I6 e) (I6 e)) fun v29=>ifB v29 (za (zg .eql (I6 e) (I6 e)) fun v30=>ifB v30 (za (zg .eql (I6 e) (I6 e)) fun v31=>ifB v31 (b1 (D (k+15) 17 [SA (enQ o r a b c d),SA [.nils,I6 0,.nils]]) fun v32=>za (zg .eql v32 (I6 e)) fun v33=>some (S1 v33)) (some (S1 (.bool false)))) (some (S1 (.bool false)))) (some (S1 (.bool false))))=_;rw[ee,zb,qF,zb,qF,zb,qF,c4,zV,ee,zb]
structure QuA where
 z:List DV
 r:Reg
 a:Int
 b:Int
 c:Int
 d:Int
structure QuA.ok (q:QuA):Prop where
 z:∃a b c d,q.z=[a,b,c,d]
def zsL(q:QuA):List DV:=q.z++[enL 1 enU q.r.stops,U64 q.r.cpls,U64 q.r.off,I6 q.a,I6 q.b,I6 q.c,I6 q.d]
theorem zkk(p:Pln)(hf:kR p=true):0<(zfE p).ranks.els.length/\(zfE p).ranks.els.length<=3/\0<(zfE p).divs.els.length:=by
 obtain⟨f1,f2,f3,_⟩:=qN hf;have h1:(zfE p).ranks.els.length=p.ranks.els.length:=by show (grow (jh 0 p.ranks.els)).els.length=_;rw[yO,qx]
 have h2:(zfE p).divs.els.length=p.divs.els.length:=by show (grow (jj _ 0 p.divs.els)).els.length=_;rw[yO,jM]
 omega
theorem t4(k:Nat)(p:GPl)(hp:p.ok)(s0 s1:Nat)(h1:s1<256)(q:QuA)(hq:q.ok):D (k+16) 4 [SA (zeQ p),SA [U8 (s0:Int),U8 (s1:Int)],SA (zsL q)]=some (S1 (Bo true)):=by
 obtain⟨z,r,a,b,c,d⟩:=q;obtain⟨⟨z0,z1,z2,z3,rfl⟩⟩:=hq;have kn:=D5 (k+15);have cf:=t8 (k+13) p hp;unfold zeQ at cf ⊢;show D (k+16) 4 [_,_,SA [z0,z1,z2,z3,enL 1 enU r.stops,U64 r.cpls,U64 r.off,I6 a,I6 b,I6 c,I6 d]]=_;rw[D4];unfold P4;rw[kn,zV,zwY,zfL,cf,zV,wb,zb,zu];cases hf:zdt p with
 |false=>rfl
 |true=>
  have mk:=t10 (k+7) p hp hf;unfold zeQ at mk;have hk:kR (kbP p.org)=true:=by unfold zdt at hf;rw[LzC]at hf;rw[ziT];exact hf.1
  obtain⟨m1,m2,m3⟩:=zdk (kbP p.org) hk;obtain⟨r1,r2,r3⟩:=zkk (kbP p.org) hk;obtain⟨o2,ho2,ch⟩:=t9 (k+14) (zfE (kbP p.org)) (zrJ _ hk) r1 r2 r3 m1 m3 m2 s0 s1 h1;have oc:=t11 (k+6) o2 ho2;have rc:=t12 (k+5) o2 ho2 r;unfold zfW at rc;have sc:=t13 (k+14) a b c d;have gc:=t14 (k+3) o2 ho2 r a b c d;have H:=zzD k o2 ho2 r a b c d;have e0:[atD (enO o2) 0,atD (enO o2) 1,atD (enO o2) 2,atD (enO o2) 3,enL 1 enU r.stops,U64 r.cpls,U64 r.off,I6 a,I6 b,I6 c,I6 d]=enQ o2 r a b c d:=rfl;rw[Yzb (by simp),zR,zb,yd,zb,zu];by_cases hl:(10:Int)<(r.stops.els.length:Int)
  .rw[Yzd (by simpa using hl)];rfl
  rw[Yzb (by simpa using hl),mk,zvz,zvc,ch,znJ,zqE,oc,zV,e0,rc,sc,gc];have fin:∀w:Int,j9 o2 r a b c d=w->(b1 (some (S1 (I6 (j9 o2 r a b c d)))) fun v=>za (zg .neq v (I6 w)) fun z=>ifB z (some (S1 (.bool false))) (zhY (D (k+15)) (I6 w) (enO o2) (enL 1 enU r.stops) (U64 r.cpls) (U64 r.off) (I6 a) (I6 b) (I6 c) (I6 d)))=some (S1 (Bo true)):=by
   rintro w rfl
   rw[zV,zrF rfl,zfL];exact H
  by_cases e1:qr o2=0
  .rw[zsH e1,qF,zV];by_cases e2:zc6 o2 r=0
   .rw[zsH e2,qF,zV];exact fin _ (by unfold j9;rw[Yzb (by simp[e1]),Yzb (by simp[e2])])
   rw[zpJ e2,zfL];exact fin _ (by unfold j9;rw[Yzb (by simp[e1]),Yzd e2])
  rw[zpJ e1,zfL,zpJ e1,zfL];exact fin _ (by unfold j9;rw[Yzd e1])
end Go.Proofs.Tryz.Kn
end
