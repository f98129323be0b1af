/-
  Lemmas. No condition.
-/
import Derived.Test.YtfmceamccfhfcaaGreatDoorVd
import Derived.Test.YtfmceamccfhfcaaGreatDoorXl
import Derived.Test.YtfmceamccfhfcaaGreatDoorXj
import Derived.Test.YtfmceamccfhfcaaGreatDoorProg
set_option linter.unusedSimpArgs false
set_option linter.unusedVariables false
noncomputable section
namespace Go.Proofs.Tryz.Kn
open Go Go.CE Go.PE
abbrev prog:Program:=Tryz.prog
def uM:Nat→Bool:=fun g=>match g with|30=>true|46=>true|47=>true|73=>true|58=>true|60=>true|78=>true|79=>true|86=>true|87=>true|67=>true|117=>true|_=>false
abbrev redI:Red:=⟨fun _ _=>none,fun g=>match g with|58=>some ⟨[59,104,63],2⟩|87=>some ⟨[88],2⟩|_=>none⟩
def an0:Nat→Option LA:=fun _=>none
def zzh:Nat→List PA→Nat→Nat→Option LA:=fun _ _ _ _=>none
abbrev pF(O:Orc)(an:Nat→Option LA)(g:Nat)(args:List DA):Option DA:=zkx prog O uM (inl prog O uM zzh redI 4) an g args
def an8:Nat→Option LA:=fun i=>match i with|0=>some ⟨[.slot 3],[],[],[],[],[],[.slot 2],[],[]⟩|_=>none
def zqJ(a:DV)(b:List DV)(_j:List OC):Option PX:=za (yV a) fun c=>za (zf .lss (zh b 0) c) fun d=>ifB d (za (yy 4 a (zh b 0)) fun e=>za (yV (atD e 3)) fun f=>za (zf .gtr f (I6 3)) fun g=>ifB g (some (.ret,[.bool false],[])) (za (zf .add (zh b 0) (I6 1)) fun h=>some (.normal,[h],[]))) (some (.exit 0,[],[]))
def P8(_O:Orc)(a b c:DV):Option DA:=za (yV a) fun e=>za (zf .lss e (I6 1)) fun f=>ifB f (some (S1 (.bool false))) (za (yV a) fun g=>za (zf .gtr g (I6 3)) fun h=>ifB h (some (S1 (.bool false))) (za (yV b) fun j=>za (zf .lss j (I6 1)) fun k=>ifB k (some (S1 (.bool false))) (za (yV b) fun l=>za (zf .gtr l (I6 3)) fun m=>ifB m (some (S1 (.bool false))) (za (yV c) fun n=>za (zf .gtr n (I6 3)) fun o=>ifB o (some (S1 (.bool false))) (yc (zB (zqJ b) [I6 0] []) (fun p _d _q=>bif Nat.beq p 0 then (some (S1 (.bool true))) else(none)) (fun d _q=>some (S1 (zh d 0))))))))
theorem p8(O:Orc)(a b c:DV):pF O an8 8 [SA [a,b,c]]=P8 O a b c:=by kernel_rfl
def an9:Nat→Option LA:=fun i=>match i with|0=>some ⟨[.slot 4,.cell 2 0],[(.cell 2 1,6),(.cell 2 2,5),(.cell 2 3,5)],[(2,4)],[],[.cell 2 0],[(.cell 2 1,6),(.cell 2 2,5),(.cell 2 3,5)],[.cell 2 0,.cell 2 1,.cell 2 2,.cell 2 3],[],[]⟩|1=>some ⟨[.slot 5,.cell 2 0,.cell 2 1],[(.cell 2 2,5),(.cell 2 3,5)],[(2,4)],[],[.cell 2 0,.cell 2 1],[(.cell 2 2,5),(.cell 2 3,5)],[.cell 2 0,.cell 2 1,.cell 2 2,.cell 2 3],[],[3]⟩|2=>some ⟨[.slot 9,.cell 10 0,.cell 10 1,.cell 10 2,.cell 10 3],[(.cell 10 4,4)],[(10,5)],[],[.cell 10 0,.cell 10 1,.cell 10 2,.cell 10 3],[(.cell 10 4,4)],[.cell 10 0,.cell 10 1,.cell 10 2,.cell 10 3,.cell 10 4],[],[]⟩|3=>some ⟨[.slot 11,.cell 2 0,.cell 2 1],[(.cell 2 2,5),(.cell 2 3,5)],[(2,4)],[],[.cell 2 0,.cell 2 1],[(.cell 2 2,5),(.cell 2 3,5)],[.cell 2 0,.cell 2 1,.cell 2 2,.cell 2 3],[],[]⟩|_=>none
def zqG(a j:DV)(b:List DV)(c:List OC):Option PX:=za (yV a) fun k=>za (zf .lss (zh b 0) k) fun l=>ifB l (za (yy 4 a (zh b 0)) fun d=>za (zf .add (I6 48) (zh b 0)) fun m=>za (yi .u8 m) fun n=>za (zoz (.lst 1 [[n]])) fun o=>za (zos .add (.str ⟨#[67]⟩) o) fun g=>za (yi .i64 (atD d 0)) fun p=>za (zf .rem p j) fun e=>za (yi .i64 (atD d 1)) fun q=>za (zf .rem q j) fun f=>za (yi .i64 (atD d 2)) fun r=>za (zf .rem r (I6 25)) fun h=>za (zf .eql e f) fun s=>ifB s (za (zf .eql h (I6 0)) fun t=>ifB t (gd (fits 48 (xt (zq c 1)+1)) (za (zf .add (zh b 0) (I6 1)) fun v=>some (.normal,[v,zh b 1,zh b 2],[zq c 0,some (zM (zq c 1)++[[g,e,f,I6 12,atD d 3]])]))) (gd (fits 48 (xt (zq c 1)+1)) (za (zf .add (zh b 0) (I6 1)) fun w=>some (.normal,[w,zh b 1,zh b 2],[zq c 0,some (zM (zq c 1)++[[g,e,f,h,atD d 3]])])))) (gd (fits 48 (xt (zq c 1)+1)) (za (zf .add (zh b 0) (I6 1)) fun x=>some (.normal,[x,zh b 1,zh b 2],[zq c 0,some (zM (zq c 1)++[[g,e,f,h,atD d 3]])])))) (some (.exit 6,[zh b 1,zh b 2],[zq c 0,zq c 1]))
def zqH(O:Orc)(e f:List DV)(a:List DV)(d:List OC):Option PX:=za (yV (atD e 3)) fun g=>za (zf .lss (zh a 0) g) fun h=>ifB h (za (yy 4 (atD e 3) (zh a 0)) fun b=>bA 4 (O 27 [S1 (zh f 2),SA [zh a 3,zh a 4],SA [atD b 0,atD b 1,atD b 2,atD b 3],S1 (zh a 0)]) fun c=>gd (fits 56 (xt (zq d 0)+1)) (za (zf .add (zh a 0) (I6 1)) fun j=>some (.normal,[j,zh a 1,zh a 2,zh a 3,zh a 4],[some (zM (zq d 0)++[[atD c 0,atD c 1,atD c 2,atD c 3]])]))) (some (.exit 4,[zh a 1,zh a 2,zh a 3,zh a 4],[zq d 0]))
def zqI(O:Orc)(a:DV)(b:List DV)(c:List OC):Option PX:=za (yV a) fun j=>za (zf .lss (zh b 0) j) fun k=>ifB k (za (yy 4 a (zh b 0)) fun e=>za (zf .rem (atD e 0) (U8 12)) fun l=>za (yi .i64 l) fun m=>za (zf .add (I6 36) m) fun g=>za (zf .add (I6 48) (zh b 0)) fun n=>za (yi .u8 n) fun o=>za (zoz (.lst 1 [[o]])) fun p=>za (zos .add (.str ⟨#[68]⟩) p) fun q=>za (zf .rem (atD e 1) (U8 9)) fun r=>za (yi .i64 r) fun s=>za (zf .add g s) fun t=>yc (zB (zqH O e b) [I6 0,q,atD e 2,g,t] [none]) (fun f d h=>bif Nat.beq f 4 then (gd (fits 64 (xt (zq c 0)+1)) (za (zf .add (zh b 0) (I6 1)) fun v=>some (.normal,[v,zh b 1,zh b 2],[some (zM (zq c 0)++[[zh d 0,zh d 1,zh d 2,zh d 3,mkL 4 (zq h 0)]]),zq c 1]))) else(bif Nat.beq f 3 then (za (zf .add (zh b 0) (I6 1)) fun w=>some (.normal,[w,zh b 1,zh b 2],[zq c 0,zq c 1])) else(some (.exit f,[zh b 1,zh b 2],[zq c 0,zq c 1])))) (fun _d _h=>none)) (some (.exit 2,[zh b 1,zh b 2],[zq c 0,zq c 1]))
def zzs(O:Orc)(a:DV)(d:List DV)(c:List OC):Option PX:=za (yV a) fun f=>za (zf .lss (zh d 0) f) fun g=>ifB g (za (yy 9 a (zh d 0)) fun b=>bA 6 (O 26 [SA [atD b 0,atD b 1,atD b 2,atD b 3,atD b 4,atD b 5,atD b 6,atD b 7,atD b 8],S1 (zh d 0)]) fun e=>gd (fits 80 (xt (zq c 0)+1)) (za (zf .add (zh d 0) (I6 1)) fun h=>some (.normal,[h,zh d 1],[some (zM (zq c 0)++[[atD e 0,atD e 1,atD e 2,atD e 3,atD e 4,atD e 5]]),zq c 1,zq c 2]))) (some (.exit 0,[zh d 1],[zq c 0,zq c 1,zq c 2]))
def P9(O:Orc)(a b c:DV):Option DA:=yc (zB (zzs O a) [I6 0,.str ⟨#[79,114,103,97,110]⟩] [none,none,none]) (fun k j d=>bif Nat.beq k 0 then (yc (zB (zqI O b) [I6 0,zh j 0,mkL 6 (zq d 0)] [zq d 1,zq d 2]) (fun l e f=>bif Nat.beq l 2 then (za (yV b) fun m=>yc (zB (zqG c m) [I6 0,zh e 0,zh e 1] [zq f 0,zq f 1]) (fun n g h=>bif Nat.beq n 6 then (some (SA [zh g 0,zh g 1,mkL 5 (zq h 0),mkL 5 (zq h 1)])) else(none)) (fun _g _h=>none)) else(none)) (fun _e _f=>none)) else(none)) (fun _j _d=>none)
theorem p9(O:Orc)(a b c:DV):pF O an9 9 [SA [a,b,c]]=P9 O a b c:=by kernel_rfl
def zCP:Nat→Option LA:=fun i=>match i with|0=>some ⟨[.slot 6,.cell 3 1,.cell 3 2],[(.cell 3 0,1)],[(3,3)],[],[.cell 3 1,.cell 3 2],[(.cell 3 0,1)],[.cell 3 0,.cell 3 1,.cell 3 2],[],[]⟩|_=>none
def ziv(a b c d f h:DV)(e:List DV)(g:List OC):Option PX:=za (yV a) fun j=>za (zf .lss (zh e 0) j) fun k=>ifB k (za (zf .rem (zh e 0) (I6 3)) fun l=>za (vu 5 l) fun m=>za (yi .u64 (atD [b,c,d,f,h] m)) fun n=>za (yy 5 a (zh e 0)) fun o=>za (yV (atD o 4)) fun p=>za (yi .u64 p) fun q=>za (yj true (U64 1) q) fun r=>za (zf .sub r (U64 1)) fun s=>za (zf .and n s) fun t=>gd (fits 8 (xt (zq g 0)+1)) (za (zf .add (zh e 0) (I6 1)) fun v=>some (.normal,[v,zh e 1,zh e 2],[some (zM (zq g 0)++[[t]])]))) (some (.exit 0,[zh e 1,zh e 2],[zq g 0]))
def P10(_O:Orc)(_a _b c d f h j m r:DV):Option DA:=za (yi .u64 (atD [f,h,j,m,r] 3)) fun e=>za (yV d) fun g=>za (yi .u64 g) fun k=>za (yj true (U64 1) k) fun l=>za (zf .sub l (U64 1)) fun n=>za (zf .and e n) fun o=>za (yi .u64 (atD [f,h,j,m,r] 4)) fun p=>za (yV c) fun q=>za (yi .u64 q) fun s=>za (yj true (U64 1) s) fun t=>za (zf .sub t (U64 1)) fun v=>za (zf .and p v) fun w=>yc (zB (ziv c f h j m r) [I6 0,o,w] [none]) (fun x a b=>bif Nat.beq x 0 then (some (SA [mkL 1 (zq b 0),zh a 0,zh a 1])) else(none)) (fun _a _b=>none)
theorem p10(O:Orc)(a b c d f h j m r:DV):pF O zCP 10 [SA [a,b,c,d],SA [f,h,j,m,r]]=P10 O a b c d f h j m r:=by kernel_rfl
def zCz:Nat→Option LA:=fun i=>match i with|0=>some ⟨[.slot 27],[],[],[(1,1048576)],[],[],[.slot 2],[],[]⟩|1=>some ⟨[.slot 58],[(.slot 8,2)],[],[(2,1048576)],[],[(.slot 8,2)],[.slot 2],[],[]⟩|_=>none
def zia(O:Orc)(l a b c d:DV)(g:List DV)(f:List OC):Option PX:=za (zf .lss (zh g 0) l) fun m=>ifB m (za (yy 5 a (zh g 0)) fun e=>b1 (O 71 [S1 (atD e 0)]) fun n=>za (zai n) fun o=>ifB o (some (.ret,[I6 8],[some (zM (zq f 1))])) (za (ziz (.inl 2) (.one (atD e 0)) (.one (atD e 0))) fun _x=>za (zf6 (.inl 2) 1048576 (.one (atD e 0)) (zM (zq f 1))) fun p=>ifB (dsO (lkD (.one (.bool false)) p)) (za (zf .neq (I6 9) (I6 0)) fun q=>ifB q (some (.ret,[I6 9],[some (zM (zq f 1))])) (b1 (O 74 [SA [b,c,a,d],SA [atD e 0,atD e 1,atD e 2,atD e 3,atD e 4]]) fun j=>za (zf .neq j (I6 0)) fun r=>ifB r (some (.ret,[j],[some (zM (zq f 1))])) (gd (fits 16 (xt (zq f 0)+1)) (za (zf .add (zh g 0) (I6 1)) fun s=>some (.normal,[s],[some (zM (zq f 0)++[[atD e 2,atD e 3]]),some (zM (zq f 1))]))))) (za (ziz (.inl 2) (.one (atD e 0)) (.one (atD e 0))) fun _y=>za (zrc (.inl 2) 1048576 (.one (atD e 0)) [atD e 0,.bool true] (zM (zq f 1))) fun h=>za (zf .neq (I6 0) (I6 0)) fun t=>ifB t (some (.ret,[I6 0],[some h])) (b1 (O 74 [SA [b,c,a,d],SA [atD e 0,atD e 1,atD e 2,atD e 3,atD e 4]]) fun k=>za (zf .neq k (I6 0)) fun v=>ifB v (some (.ret,[k],[some h])) (gd (fits 16 (xt (zq f 0)+1)) (za (zf .add (zh g 0) (I6 1)) fun w=>some (.normal,[w],[some (zM (zq f 0)++[[atD e 2,atD e 3]]),some h]))))))) (some (.exit 4,[],[zq f 0,some (zM (zq f 1))]))
def zqU(O:Orc)(g a:DV)(d:List DV)(c:List OC):Option PX:=za (zf .lss (zh d 0) g) fun h=>ifB h (za (yy 6 a (zh d 0)) fun b=>b1 (O 72 [SA [atD b 0,atD b 1,atD b 2,atD b 3,atD b 4,atD b 5]]) fun e=>za (zf .neq e (I6 0)) fun j=>ifB j (some (.ret,[e],[some (zM (zq c 0))])) (za (ziz (.inl 2) (.one (atD b 0)) (.one (atD b 0))) fun _p=>za (zf6 (.inl 2) 1048576 (.one (atD b 0)) (zM (zq c 0))) fun k=>ifB (dsO (lkD (.one (.bool false)) k)) (za (zf .neq (I6 9) (I6 0)) fun l=>ifB l (some (.ret,[I6 9],[some (zM (zq c 0))])) (za (zf .add (zh d 0) (I6 1)) fun m=>some (.normal,[m],[some (zM (zq c 0))]))) (za (ziz (.inl 2) (.one (atD b 0)) (.one (atD b 0))) fun _q=>za (zrc (.inl 2) 1048576 (.one (atD b 0)) [atD b 0,.bool true] (zM (zq c 0))) fun f=>za (zf .neq (I6 0) (I6 0)) fun n=>ifB n (some (.ret,[I6 0],[some f])) (za (zf .add (zh d 0) (I6 1)) fun o=>some (.normal,[o],[some f]))))) (some (.exit 1,[],[some (zM (zq c 0))]))
def P54(O:Orc)(a b c d:DV):Option DA:=b1 (O 71 [S1 a]) fun h=>za (zai h) fun j=>ifB j (some (S1 (I6 8))) (za (yV b) fun k=>za (zf .gtr k (I6 60)) fun l=>ifB l (some (S1 (I6 4))) (za (yV b) fun m=>yc (zB (zqU O m b) [I6 0] [some []]) (fun n _e _o=>bif Nat.beq n 1 then (za (yV c) fun p=>za (zf .eql p (I6 0)) fun q=>ifB q (some (S1 (I6 13))) (za (yV c) fun r=>za (zf .gtr r (I6 8)) fun s=>ifB s (some (S1 (I6 4))) (za (yV c) fun t=>yc (zB (zia O t c a b d) [I6 0] [none,some []]) (fun v _f g=>bif Nat.beq v 4 then (b1s (O 75 [S1 (mkL 2 (zq g 0)),S1 d]) fun w=>some (S1 w)) else(none)) (fun f _g=>some (S1 (zh f 0)))))) else(none)) (fun e _o=>some (S1 (zh e 0)))))
theorem p54(O:Orc)(a b c d:DV):pF O zCz 54 [SA [a,b,c,d]]=P54 O a b c d:=by kernel_rfl
def zCy:Nat→Option LA:=fun i=>match i with|0=>some ⟨[.slot 23],[],[],[],[],[],[.slot 4],[],[]⟩|_=>none
def zqT(d a b:DV)(c:List DV)(_m:List OC):Option PX:=za (zf .lss (zh c 0) d) fun e=>ifB e (za (yy 5 a (zh c 0)) fun f=>za (yy 1 b (zh c 0)) fun g=>za (yV (atD f 4)) fun h=>za (yj false (atD g 0) h) fun j=>za (zf .neq j (U64 0)) fun k=>ifB k (some (.ret,[I6 3],[])) (za (zf .add (zh c 0) (I6 1)) fun l=>some (.normal,[l],[]))) (some (.exit 0,[],[]))
def P55(O:Orc)(a b c d f h j:DV):Option DA:=b1 (O 54 [SA [a,b,c,d]]) fun e=>za (zf .neq e (I6 0)) fun k=>ifB k (some (S1 e)) (za (yV f) fun l=>za (yV c) fun m=>za (zf .neq l m) fun n=>ifB n (some (S1 (I6 5))) (za (yV c) fun o=>yc (zB (zqT o c f) [I6 0] []) (fun p _g _q=>bif Nat.beq p 0 then (za (yV d) fun r=>za (yj false h r) fun s=>za (zf .neq s (U64 0)) fun t=>ifB t (some (S1 (I6 3))) (za (yV c) fun v=>za (yj false j v) fun w=>za (zf .neq w (U64 0)) fun x=>ifB x (some (S1 (I6 3))) (some (S1 (I6 0))))) else(none)) (fun g _q=>some (S1 (zh g 0)))))
theorem p55(O:Orc)(a b c d f h j:DV):pF O zCy 55 [SA [a,b,c,d],SA [f,h,j]]=P55 O a b c d f h j:=by kernel_rfl
def zCJ:Nat→Option LA:=fun i=>match i with|0=>some ⟨[.slot 6,.cell 4 0,.cell 4 1,.cell 4 2,.cell 4 3,.cell 4 4],[(.cell 4 5,1)],[(4,6)],[],[.cell 4 0,.cell 4 1,.cell 4 2,.cell 4 3,.cell 4 4],[(.cell 4 5,1)],[.cell 4 0,.cell 4 1,.cell 4 2,.cell 4 3,.cell 4 4,.cell 4 5],[],[]⟩|_=>none
def zij(a b c d f h:DV)(e:List DV)(g:List OC):Option PX:=za (zf .rem a (U8 25)) fun j=>za (yi .i64 j) fun k=>za (zf .add (I6 1) k) fun l=>za (zf .lss (zh e 0) l) fun m=>ifB m (za (zf .rem (zh e 0) (I6 5)) fun n=>za (vu 5 n) fun o=>za (yi .i64 (atD [b,c,d,f,h] o)) fun p=>gd (fits 8 (xt (zq g 0)+1)) (za (zf .add (zh e 0) (I6 1)) fun q=>some (.normal,[q,zh e 1,zh e 2,zh e 3,zh e 4,zh e 5],[some (zM (zq g 0)++[[p]])]))) (some (.exit 0,[zh e 1,zh e 2,zh e 3,zh e 4,zh e 5],[zq g 0]))
def P26(O:Orc)(a b c d f h j m r l:DV):Option DA:=za (zf .rem l (I6 10)) fun n=>za (zf .add (I6 48) n) fun o=>za (yi .u8 o) fun p=>za (zoz (.lst 1 [[p]])) fun q=>za (zos .add (.str ⟨#[82]⟩) q) fun s=>za (zf .rem a (U8 3)) fun t=>za (y2 (some [[.str ⟨#[79,112,101,110]⟩],[.str ⟨#[70,108,117,116,101]⟩],[.str ⟨#[82,101,101,100]⟩]]) t) fun v=>za (vZ (some [[.str ⟨#[79,112,101,110]⟩],[.str ⟨#[70,108,117,116,101]⟩],[.str ⟨#[82,101,101,100]⟩]]) v) fun w=>bA 2 (O 51 [S1 b]) fun g=>za (yi .i64 c) fun x=>yc (zB (zij d f h j m r) [I6 0,s,atD w 0,atD g 0,atD g 1,x] [none]) (fun y e k=>bif Nat.beq y 0 then (some (SA [zh e 0,zh e 1,zh e 2,zh e 3,zh e 4,mkL 1 (zq k 0)])) else(none)) (fun _e _k=>none)
theorem p26(O:Orc)(a b c d f h j m r a1:DV):pF O zCJ 26 [SA [a,b,c,d,f,h,j,m,r],S1 a1]=P26 O a b c d f h j m r a1:=by kernel_rfl
def P27(O:Orc)(m a b c d f h C:DV):Option DA:=za (yi .i64 c) fun E=>za (yV m) fun F=>za (zf .rem E F) fun g=>za (zf .add (I6 48) C) fun G=>za (yi .u8 G) fun H=>za (zoz (.lst 1 [[H]])) fun J=>za (zos .add (.str ⟨#[83]⟩) J) fun l=>bA 2 (O 52 [S1 d]) fun e=>za (yy 6 m g) fun q=>bT [none,none] (O 53 [SA [atD e 0,atD e 1],SA [atD q 2,atD q 3]]) fun k=>za (yi .i64 h) fun K=>za (zf .sub b a) fun L=>za (zf .add L (I6 1)) fun M=>za (zf .rem K M) fun N=>za (zf .add a N) fun j=>za (zf .rem f (U8 6)) fun n=>za (zf .eql n (U8 2)) fun P=>ifB P (za (zf .add (dsO (jL k 0)) (I6 7)) fun Q=>some (SA [l,atD e 0,atD e 1,.lst 3 [[a,b,.lst 2 [[g,dsO (jL k 0)],[g,Q]]]]])) (za (zf .eql n (U8 3)) fun R=>ifB R (za (zf .sub (dsO (jL k 0)) (I6 12)) fun r=>za (zf .rem f (U8 6)) fun S=>za (zf .eql S (U8 3)) fun T=>ifB T (za (zf .add g (I6 1)) fun U=>za (yV m) fun V=>za (zf .rem U V) fun o=>za (yy 6 m o) fun s=>bT [none,none] (O 53 [SA [atD e 0,atD e 1],SA [atD s 2,atD s 3]]) fun t=>za (zf .gtr j a) fun W=>ifB W (za (zf .sub j (I6 1)) fun v=>gd (fits 40 1) (gd (fits 40 (xt (some (zM none++[[a,v,.lst 2 [[g,dsO (jL k 0)]]]]))+1)) (some (SA [l,atD e 0,atD e 1,.lst 3 (zM (some (zM none++[[a,v,.lst 2 [[g,dsO (jL k 0)]]]]))++[[j,b,.lst 2 [[o,dsO (jL t 0)]]]])])))) (gd (fits 40 1) (some (SA [l,atD e 0,atD e 1,.lst 3 (zM none++[[j,b,.lst 2 [[o,dsO (jL t 0)]]]])])))) (za (zf .gtr j a) fun X=>ifB X (za (zf .sub j (I6 1)) fun w=>gd (fits 40 1) (gd (fits 40 (xt (some (zM none++[[a,w,.lst 2 [[g,dsO (jL k 0)]]]]))+1)) (some (SA [l,atD e 0,atD e 1,.lst 3 (zM (some (zM none++[[a,w,.lst 2 [[g,dsO (jL k 0)]]]]))++[[j,b,.lst 2 [[g,r]]]])])))) (gd (fits 40 1) (some (SA [l,atD e 0,atD e 1,.lst 3 (zM none++[[j,b,.lst 2 [[g,r]]]])]))))) (za (zf .eql n (U8 4)) fun Y=>ifB Y (za (zf .sub (dsO (jL k 0)) (I6 12)) fun x=>za (zf .rem f (U8 6)) fun Z=>za (zf .eql Z (U8 3)) fun aa=>ifB aa (za (zf .add g (I6 1)) fun ab=>za (yV m) fun ac=>za (zf .rem ab ac) fun p=>za (yy 6 m p) fun y=>bT [none,none] (O 53 [SA [atD e 0,atD e 1],SA [atD y 2,atD y 3]]) fun z=>za (zf .gtr j a) fun ad=>ifB ad (za (zf .sub j (I6 1)) fun A=>gd (fits 40 1) (gd (fits 40 (xt (some (zM none++[[a,A,.lst 2 [[g,dsO (jL k 0)]]]]))+1)) (some (SA [l,atD e 0,atD e 1,.lst 3 (zM (some (zM none++[[a,A,.lst 2 [[g,dsO (jL k 0)]]]]))++[[j,b,.lst 2 [[p,dsO (jL z 0)]]]])])))) (gd (fits 40 1) (some (SA [l,atD e 0,atD e 1,.lst 3 (zM none++[[j,b,.lst 2 [[p,dsO (jL z 0)]]]])])))) (za (zf .gtr j a) fun ae=>ifB ae (za (zf .sub j (I6 1)) fun B=>gd (fits 40 1) (gd (fits 40 (xt (some (zM none++[[a,B,.lst 2 [[g,dsO (jL k 0)]]]]))+1)) (some (SA [l,atD e 0,atD e 1,.lst 3 (zM (some (zM none++[[a,B,.lst 2 [[g,dsO (jL k 0)]]]]))++[[j,b,.lst 2 [[g,x]]]])])))) (gd (fits 40 1) (some (SA [l,atD e 0,atD e 1,.lst 3 (zM none++[[j,b,.lst 2 [[g,x]]]])]))))) (za (zf .eql n (U8 5)) fun af=>ifB af (some (SA [l,atD e 0,atD e 1,.lst 3 [[j,b,.lst 2 [[g,dsO (jL k 0)]]]]])) (some (SA [l,atD e 0,atD e 1,.lst 3 [[a,b,.lst 2 [[g,dsO (jL k 0)]]]]])))))
theorem p27(O:Orc)(a0 a b c d f h a3:DV):pF O an0 27 [S1 a0,SA [a,b],SA [c,d,f,h],S1 a3]=P27 O a0 a b c d f h a3:=by kernel_rfl
def zCr:Nat→Option LA:=fun i=>match i with|0=>some ⟨[.slot 3],[],[],[],[],[],[.slot 2],[],[]⟩|_=>none
def zqO(O:Orc)(c:DV)(a:List DV)(_q:List OC):Option PX:=za (zml c) fun d=>za (zf .lss (zh a 0) d) fun e=>ifB e (za (zbC c (zh a 0)) fun b=>b1 (O 95 [S1 b]) fun f=>za (zai f) fun g=>ifB g (za (zf .lss b (U8 48)) fun h=>ifB h (za (zf .neq b (U8 95)) fun j=>ifB j (some (.ret,[.bool false],[])) (za (zf .add (zh a 0) (I6 1)) fun k=>some (.normal,[k],[]))) (za (zf .gtr b (U8 57)) fun l=>ifB l (za (zf .neq b (U8 95)) fun m=>ifB m (some (.ret,[.bool false],[])) (za (zf .add (zh a 0) (I6 1)) fun n=>some (.normal,[n],[]))) (za (zf .add (zh a 0) (I6 1)) fun o=>some (.normal,[o],[])))) (za (zf .add (zh a 0) (I6 1)) fun p=>some (.normal,[p],[]))) (some (.exit 0,[],[]))
def P71(O:Orc)(a:DV):Option DA:=za (zos .eql a (.str ⟨#[]⟩)) fun c=>ifB c (some (S1 (.bool false))) (za (zml a) fun d=>za (zf .gtr d (I6 32)) fun e=>ifB e (some (S1 (.bool false))) (za (zbC a (I6 0)) fun f=>b1 (O 95 [S1 f]) fun g=>za (zai g) fun h=>ifB h (some (S1 (.bool false))) (yc (zB (zqO O a) [I6 1] []) (fun j _b _k=>bif Nat.beq j 0 then (some (S1 (.bool true))) else(none)) (fun b _k=>some (S1 (zh b 0))))))
theorem p71(O:Orc)(a0:DV):pF O zCr 71 [S1 a0]=P71 O a0:=by kernel_rfl
def P72(O:Orc)(a b c d f h:DV):Option DA:=b1 (O 71 [S1 a]) fun g=>za (zai g) fun j=>ifB j (some (S1 (I6 8))) (b1 (O 71 [S1 b]) fun k=>za (zai k) fun l=>ifB l (some (S1 (I6 8))) (b1 (O 90 [SA [c,d]]) fun e=>za (zf .neq e (I6 0)) fun m=>ifB m (some (S1 e)) (b1 (O 96 [S1 f]) fun n=>za (zai n) fun o=>ifB o (some (S1 (I6 3))) (za (yV h) fun p=>za (zf .eql p (I6 0)) fun q=>ifB q (some (S1 (I6 13))) (za (yV h) fun r=>za (zf .gtr r (I6 128)) fun s=>ifB s (some (S1 (I6 4))) (b1 (O 97 [S1 h]) fun t=>some (S1 t)))))))
theorem p72(O:Orc)(a b c d f h:DV):pF O an0 72 [SA [a,b,c,d,f,h]]=P72 O a b c d f h:=by kernel_rfl
def zCq:Nat→Option LA:=fun i=>match i with|0=>some ⟨[.slot 25],[],[],[(2,1048576)],[],[],[.slot 4],[],[]⟩|_=>none
def zqN(O:Orc)(k a b c d:DV)(g:List DV)(f:List OC):Option PX:=za (zf .lss (zh g 0) k) fun l=>ifB l (za (yy 4 a (zh g 0)) fun e=>b1 (O 99 [SA [b,c,d],SA [atD e 0,atD e 1,atD e 2,atD e 3]]) fun h=>za (zf .neq h (I6 0)) fun m=>ifB m (some (.ret,[h],[some (zM (zq f 0))])) (za (ziz (.inl 2) (.one (atD e 0)) (.one (atD e 0))) fun _s=>za (zf6 (.inl 2) 1048576 (.one (atD e 0)) (zM (zq f 0))) fun n=>ifB (dsO (lkD (.one (.bool false)) n)) (za (zf .neq (I6 9) (I6 0)) fun o=>ifB o (some (.ret,[I6 9],[some (zM (zq f 0))])) (za (zf .add (zh g 0) (I6 1)) fun p=>some (.normal,[p],[some (zM (zq f 0))]))) (za (ziz (.inl 2) (.one (atD e 0)) (.one (atD e 0))) fun _t=>za (zrc (.inl 2) 1048576 (.one (atD e 0)) [atD e 0,.bool true] (zM (zq f 0))) fun j=>za (zf .neq (I6 0) (I6 0)) fun q=>ifB q (some (.ret,[I6 0],[some j])) (za (zf .add (zh g 0) (I6 1)) fun r=>some (.normal,[r],[some j]))))) (some (.exit 0,[],[some (zM (zq f 0))]))
def P74(O:Orc)(_a b _c _d _f _h j m r:DV):Option DA:=b1 (O 98 [SA [j,m]]) fun a=>za (zf .neq a (I6 0)) fun d=>ifB d (some (S1 a)) (za (yV r) fun e=>za (zf .gtr e (I6 60)) fun f=>ifB f (some (S1 (I6 4))) (za (yV r) fun g=>yc (zB (zqN O g r b j m) [I6 0] [some []]) (fun h _c _k=>bif Nat.beq h 0 then (some (S1 (I6 0))) else(none)) (fun c _k=>some (S1 (zh c 0)))))
theorem p74(O:Orc)(a b c d f h j m r:DV):pF O zCq 74 [SA [a,b,c,d],SA [f,h,j,m,r]]=P74 O a b c d f h j m r:=by kernel_rfl
def zCp:Nat→Option LA:=fun i=>match i with|0=>some ⟨[.slot 19],[],[],[],[],[],[.slot 4],[],[]⟩|1=>some ⟨[.slot 29],[],[],[],[],[],[.slot 4],[],[]⟩|_=>none
def zhZ(O:Orc)(e c d:DV)(b:List DV)(_y:List OC):Option PX:=za (zf .lss (zh b 0) e) fun f=>ifB f (za (yy 5 c (zh b 0)) fun a=>b1 (O 71 [S1 (atD a 0)]) fun g=>za (zai g) fun h=>ifB h (some (.ret,[I6 8],[])) (za (jT 5 c none (some (zh b 0))) fun j=>b1s (O 100 [S1 j,S1 (.fn 101 [[atD a 0,atD a 1,atD a 2,atD a 3,atD a 4]])]) fun k=>ifB k (some (.ret,[I6 9],[])) (za (zf .lss (atD a 1) (I6 0)) fun l=>ifB l (some (.ret,[I6 10],[])) (za (yV d) fun m=>za (zf .geq (atD a 1) m) fun n=>ifB n (some (.ret,[I6 10],[])) (za (zf .lss (atD a 2) (I6 0)) fun o=>ifB o (some (.ret,[I6 10],[])) (za (yV d) fun p=>za (zf .geq (atD a 2) p) fun q=>ifB q (some (.ret,[I6 10],[])) (za (zf .lss (atD a 3) (I6 (-127))) fun r=>ifB r (some (.ret,[I6 3],[])) (za (zf .gtr (atD a 3) (I6 127)) fun s=>ifB s (some (.ret,[I6 3],[])) (za (zf .eql (atD a 1) (atD a 2)) fun t=>ifB t (za (zf .eql (atD a 3) (I6 0)) fun v=>ifB v (some (.ret,[I6 7],[])) (za (zf .add (zh b 0) (I6 1)) fun w=>some (.normal,[w],[]))) (za (zf .add (zh b 0) (I6 1)) fun x=>some (.normal,[x],[]))))))))))) (some (.exit 2,[],[]))
def zqM(O:Orc)(c d:DV)(a:List DV)(_j:List OC):Option PX:=za (zf .lss (zh a 0) c) fun e=>ifB e (za (yy 2 d (zh a 0)) fun b=>b1 (O 98 [SA [atD b 0,atD b 1]]) fun f=>za (zf .neq f (I6 0)) fun g=>ifB g (some (.ret,[I6 23],[])) (za (zf .add (zh a 0) (I6 1)) fun h=>some (.normal,[h],[]))) (some (.exit 0,[],[]))
def P75(O:Orc)(a b:DV):Option DA:=za (yV a) fun e=>za (zf .gtr e (I6 8)) fun f=>ifB f (some (S1 (I6 4))) (za (yV b) fun g=>za (zf .gtr g (I6 40)) fun h=>ifB h (some (S1 (I6 4))) (za (yV a) fun j=>yc (zB (zqM O j a) [I6 0] []) (fun k _c _l=>bif Nat.beq k 0 then (za (yV b) fun m=>yc (zB (zhZ O m b a) [I6 0] []) (fun n _d _o=>bif Nat.beq n 2 then (some (S1 (I6 0))) else(none)) (fun d _o=>some (S1 (zh d 0)))) else(none)) (fun c _l=>some (S1 (zh c 0)))))
theorem p75(O:Orc)(a0 a1:DV):pF O zCp 75 [S1 a0,S1 a1]=P75 O a0 a1:=by kernel_rfl
def P51(_O:Orc)(b:DV):Option DA:=za (zf .rem b (U8 16)) fun c=>za (y2 (some [[I6 8,I6 1],[I6 4,I6 1],[I6 16,I6 1],[I6 2,I6 1],[I6 8,I6 3],[I6 8,I6 5],[I6 4,I6 3],[I6 1,I6 1],[I6 32,I6 1],[I6 16,I6 3],[I6 16,I6 5],[I6 32,I6 3],[I6 8,I6 7],[I6 2,I6 3],[I6 1,I6 2],[I6 64,I6 1]]) c) fun d=>za (vZ (some [[I6 8,I6 1],[I6 4,I6 1],[I6 16,I6 1],[I6 2,I6 1],[I6 8,I6 3],[I6 8,I6 5],[I6 4,I6 3],[I6 1,I6 1],[I6 32,I6 1],[I6 16,I6 3],[I6 16,I6 5],[I6 32,I6 3],[I6 8,I6 7],[I6 2,I6 3],[I6 1,I6 2],[I6 64,I6 1]]) d) fun a=>some (SA [atD a 0,atD a 1])
theorem p51(O:Orc)(a0:DV):pF O an0 51 [S1 a0]=P51 O a0:=by kernel_rfl
def P52(_O:Orc)(b:DV):Option DA:=za (zf .rem b (U8 6)) fun c=>za (y2 (some [[I6 8,I6 1],[I6 4,I6 1],[I6 16,I6 1],[I6 8,I6 3],[I6 2,I6 1],[I6 8,I6 5]]) c) fun d=>za (vZ (some [[I6 8,I6 1],[I6 4,I6 1],[I6 16,I6 1],[I6 8,I6 3],[I6 2,I6 1],[I6 8,I6 5]]) d) fun a=>some (SA [atD a 0,atD a 1])
theorem p52(O:Orc)(a0:DV):pF O an0 52 [S1 a0]=P52 O a0:=by kernel_rfl
def P53(O:Orc)(a b c d:DV):Option DA:=b1 (O 69 [SA [a,b],SA [c,d]]) fun e=>za (zf .neq e (I6 0)) fun f=>ifB f (some (.tup [.one (I6 0),.one e])) (b1 (O 70 [SA [a,b],SA [c,d]]) fun g=>some (.tup [.one g,.one (I6 0)]))
theorem p53(O:Orc)(a b c d:DV):pF O an0 53 [SA [a,b],SA [c,d]]=P53 O a b c d:=by kernel_rfl
def P95(_O:Orc)(a:DV):Option DA:=za (zf .geq a (U8 65)) fun b=>ifB b (za (zf .leq a (U8 90)) fun c=>ifB c (some (S1 (.bool true))) (za (zf .geq a (U8 97)) fun d=>ifB d (za (zf .leq a (U8 122)) fun e=>some (S1 e)) (some (S1 (.bool false))))) (za (zf .geq a (U8 97)) fun f=>ifB f (za (zf .leq a (U8 122)) fun g=>some (S1 g)) (some (S1 (.bool false))))
theorem p95(O:Orc)(a0:DV):pF O an0 95 [S1 a0]=P95 O a0:=by kernel_rfl
def P90(O:Orc)(a b:DV):Option DA:=b1 (O 122 [SA [a,b]]) fun c=>za (zf .neq c (I6 0)) fun d=>ifB d (some (S1 (I6 2))) (za (zf .leq a (I6 0)) fun e=>ifB e (some (S1 (I6 3))) (za (zf .mul (I6 128) b) fun f=>za (zf .gtr a f) fun g=>ifB g (some (S1 (I6 3))) (za (zf .gtr b (I6 128)) fun h=>ifB h (some (S1 (I6 4))) (some (S1 (I6 0))))))
theorem p90(O:Orc)(a b:DV):pF O an0 90 [SA [a,b]]=P90 O a b:=by kernel_rfl
def P96(_O:Orc)(a:DV):Option DA:=za (zf .geq a (I6 (-256))) fun b=>ifB b (za (zf .leq a (I6 256)) fun c=>some (S1 c)) (some (S1 (.bool false)))
theorem p96(O:Orc)(a0:DV):pF O an0 96 [S1 a0]=P96 O a0:=by kernel_rfl
def P97(O:Orc)(a:DV):Option DA:=b1 (O 132 [S1 a,S1 (.fn 133 [])]) fun b=>ifB b (some (S1 (I6 3))) (some (S1 (I6 0)))
theorem p97(O:Orc)(a0:DV):pF O an0 97 [S1 a0]=P97 O a0:=by kernel_rfl
def P98(_O:Orc)(a b:DV):Option DA:=za (zf .lss a (I6 0)) fun c=>ifB c (some (S1 (I6 3))) (za (zf .gtr b (I6 127)) fun d=>ifB d (some (S1 (I6 3))) (za (zf .gtr a b) fun e=>ifB e (some (S1 (I6 23))) (some (S1 (I6 0)))))
theorem p98(O:Orc)(a b:DV):pF O an0 98 [SA [a,b]]=P98 O a b:=by kernel_rfl
def zCm:Nat→Option LA:=fun i=>match i with|0=>some ⟨[.slot 38],[],[],[],[],[],[.slot 4],[],[]⟩|_=>none
def zhY(O:Orc)(j a b c d:DV)(f:List DV)(_z:List OC):Option PX:=za (zf .lss (zh f 0) j) fun k=>ifB k (za (yy 3 a (zh f 0)) fun e=>za (jn false (atD e 0) [atD e 1]) fun l=>za (zf .lss l b) fun m=>ifB m (some (.ret,[I6 23],[])) (za (jn true (atD e 0) [atD e 1]) fun n=>za (zf .gtr n c) fun o=>ifB o (some (.ret,[I6 23],[])) (za (zf .gtr (atD e 0) (atD e 1)) fun p=>ifB p (some (.ret,[I6 6],[])) (za (zf .gtr (zh f 0) (I6 0)) fun q=>ifB q (za (zf .sub (zh f 0) (I6 1)) fun r=>za (yy 3 a r) fun s=>za (zf .leq (atD e 0) (atD s 1)) fun t=>ifB t (some (.ret,[I6 6],[])) (b1 (O 135 [SA [d,b,c],S1 (atD e 2)]) fun g=>za (zf .neq g (I6 0)) fun v=>ifB v (some (.ret,[g],[])) (za (zf .add (zh f 0) (I6 1)) fun w=>some (.normal,[w],[])))) (b1 (O 135 [SA [d,b,c],S1 (atD e 2)]) fun h=>za (zf .neq h (I6 0)) fun x=>ifB x (some (.ret,[h],[])) (za (zf .add (zh f 0) (I6 1)) fun y=>some (.normal,[y],[]))))))) (some (.exit 1,[],[]))
def P99(O:Orc)(a b c d f h j:DV):Option DA:=b1 (O 134 [SA [a,b,c]]) fun e=>za (zf .neq e (I6 0)) fun l=>ifB l (some (S1 e)) (b1 (O 71 [S1 d]) fun m=>za (zai m) fun n=>ifB n (some (S1 (I6 8))) (b1 (O 90 [SA [f,h]]) fun g=>za (zf .neq g (I6 0)) fun o=>ifB o (some (S1 g)) (za (yV j) fun p=>za (zf .eql p (I6 0)) fun q=>ifB q (some (S1 (I6 13))) (za (yV j) fun r=>za (zf .gtr r (I6 12)) fun s=>ifB s (some (S1 (I6 4))) (za (yV j) fun t=>yc (zB (zhY O t j b c a) [I6 0] []) (fun v _k _w=>bif Nat.beq v 1 then (some (S1 (I6 0))) else(none)) (fun k _w=>some (S1 (zh k 0))))))))
theorem p99(O:Orc)(a b c d f h j:DV):pF O zCm 99 [SA [a,b,c],SA [d,f,h,j]]=P99 O a b c d f h j:=by kernel_rfl
def zBL(O:Orc)(a b:DV):Option DA:=b1 (O 136 [S1 a,S1 b]) fun c=>za (zf .geq c (I6 0)) fun d=>some (S1 d)
theorem zDe(O:Orc)(a0 a1:DV):pF O an0 100 [S1 a0,S1 a1]=zBL O a0 a1:=by kernel_rfl
def zCR(_O:Orc)(a _b _c _d _f h _j _m _r _s:DV):Option DA:=za (zos .eql a h) fun b=>some (S1 b)
theorem zDd(O:Orc)(a b c d f h j m r s:DV):pF O an0 101 [SA [a,b,c,d,f],S1 (.fp [h,j,m,r,s] 0)]=zCR O a b c d f h j m r s:=by kernel_rfl
def P69(O:Orc)(a b c d:DV):Option DA:=b1 (O 90 [SA [a,b]]) fun e=>za (zf .neq e (I6 0)) fun f=>ifB f (some (S1 e)) (b1 (O 90 [SA [c,d]]) fun g=>some (S1 g))
theorem p69(O:Orc)(a b c d:DV):pF O an0 69 [SA [a,b],SA [c,d]]=P69 O a b c d:=by kernel_rfl
def zCs:Nat→Option LA:=fun i=>match i with|0=>some ⟨[.slot 5,.slot 7],[],[],[],[.slot 5,.slot 7],[],[],[],[]⟩|1=>some ⟨[.slot 6,.slot 7],[],[],[],[.slot 6,.slot 7],[],[],[],[]⟩|2=>some ⟨[.slot 12,.slot 7],[],[],[],[.slot 7],[],[],[],[]⟩|_=>none
def zh0(O:Orc)(b:List DS)(a:List DV)(_g:List OC):Option PX:=b1 (O 94 [S1 (dsO (jL b 0)),S1 (zh a 0)]) fun c=>za (zf .gtr c (I6 0)) fun d=>ifB d (za (zf .add (zh a 1) (I6 1)) fun e=>b1 (O 93 [S1 (zh a 0),S1 (.str ⟨#[52]⟩)]) fun f=>some (.normal,[f,e],[])) (some (.exit 4,[zh a 1],[]))
def ze1(b:List DV)(a:List DV)(_g:List OC):Option PX:=za (zf .mul (I6 2) (zh a 0)) fun c=>za (zf .geq (zh b 0) c) fun d=>ifB d (za (zf .mul (zh a 0) (I6 2)) fun e=>za (zf .add (zh a 1) (I6 12)) fun f=>some (.normal,[e,f],[])) (some (.exit 2,[zh a 0,zh a 1],[]))
def znh(b:DV)(a:List DV)(_f:List OC):Option PX:=za (zf .lss (zh a 0) b) fun c=>ifB c (za (zf .mul (zh a 0) (I6 2)) fun d=>za (zf .sub (zh a 1) (I6 12)) fun e=>some (.normal,[d,e],[])) (some (.exit 0,[zh a 0,zh a 1],[]))
def P70(O:Orc)(a b c d:DV):Option DA:=za (zf .mul c b) fun j=>za (zf .mul d a) fun g=>yc (zB (znh g) [j,I6 0] []) (fun k e _l=>bif Nat.beq k 0 then (yc (zB (ze1 e) [g,zh e 1] []) (fun m f _n=>bif Nat.beq m 2 then (b1 (O 92 [S1 (zh e 0)]) fun o=>bT [none,none] (O 91 [S1 o,S1 (I6 24)]) fun p=>b1 (O 92 [S1 (zh f 0)]) fun q=>bT [none,none] (O 91 [S1 q,S1 (I6 24)]) fun r=>b1 (O 93 [S1 (dsO (jL r 0)),S1 (.str ⟨#[50]⟩)]) fun s=>yc (zB (zh0 O p) [s,zh f 1] []) (fun t h _v=>bif Nat.beq t 4 then (some (S1 (zh h 0))) else(none)) (fun _h _v=>none)) else(none)) (fun _f _n=>none)) else(none)) (fun _e _l=>none)
theorem p70(O:Orc)(a b c d:DV):pF O zCs 70 [SA [a,b],SA [c,d]]=P70 O a b c d:=by kernel_rfl
def zBE(O:Orc)(a b:DV):Option DA:=za (zf .leq b (I6 0)) fun c=>ifB c (some (S1 (I6 2))) (za (zf .gtr b (I6 1000000)) fun d=>ifB d (some (S1 (I6 2))) (za (zf .lss a (I6 (-1000000))) fun e=>ifB e (some (S1 (I6 2))) (za (zf .gtr a (I6 1000000)) fun f=>ifB f (some (S1 (I6 2))) (b1 (O 151 [S1 a]) fun g=>za (yi .u64 b) fun h=>b1 (O 150 [S1 g,S1 h]) fun j=>za (zf .neq j (U64 1)) fun k=>ifB k (some (S1 (I6 2))) (some (S1 (I6 0)))))))
theorem zC6(O:Orc)(a b:DV):pF O an0 122 [SA [a,b]]=zBE O a b:=by kernel_rfl
def zBD(O:Orc)(a b:DV):Option DA:=b1 (O 163 [S1 a,S1 b]) fun c=>za (zf .geq c (I6 0)) fun d=>some (S1 d)
theorem zC5(O:Orc)(a0 a1:DV):pF O an0 132 [S1 a0,S1 a1]=zBD O a0 a1:=by kernel_rfl
def zBC(_O:Orc)(a:DV):Option DA:=za (zf .lss a (I6 0)) fun b=>ifB b (some (S1 (.bool true))) (za (zf .gtr a (I6 1000000)) fun c=>some (S1 c))
theorem zC4(O:Orc)(a0:DV):pF O an0 133 [S1 a0]=zBC O a0:=by kernel_rfl
def zzn:Nat→Option LA:=fun i=>match i with|0=>some ⟨[.slot 13],[],[],[],[],[],[.slot 2],[],[]⟩|_=>none
def ziu(O:Orc)(e a:DV)(c:List DV)(_j:List OC):Option PX:=za (zf .lss (zh c 0) e) fun f=>ifB f (za (yy 6 a (zh c 0)) fun b=>b1 (O 72 [SA [atD b 0,atD b 1,atD b 2,atD b 3,atD b 4,atD b 5]]) fun d=>za (zf .neq d (I6 0)) fun g=>ifB g (some (.ret,[d],[])) (za (zf .add (zh c 0) (I6 1)) fun h=>some (.normal,[h],[]))) (some (.exit 0,[],[]))
def zBB(O:Orc)(a b c:DV):Option DA:=za (yV a) fun e=>za (zf .gtr e (I6 60)) fun f=>ifB f (some (S1 (I6 4))) (za (yV a) fun g=>yc (zB (ziu O g a) [I6 0] []) (fun h _d _j=>bif Nat.beq h 0 then (b1 (O 98 [SA [b,c]]) fun k=>some (S1 k)) else(none)) (fun d _j=>some (S1 (zh d 0))))
theorem zC3(O:Orc)(a b c:DV):pF O zzn 134 [SA [a,b,c]]=zBB O a b c:=by kernel_rfl
def zzm:Nat→Option LA:=fun i=>match i with|0=>some ⟨[.slot 12],[],[],[],[],[],[.slot 4],[],[]⟩|_=>none
def zit(O:Orc)(e d a:DV)(c:List DV)(_p:List OC):Option PX:=za (zf .lss (zh c 0) e) fun f=>ifB f (za (yy 2 d (zh c 0)) fun b=>za (zf .lss (atD b 0) (I6 0)) fun g=>ifB g (some (.ret,[I6 10],[])) (za (yV a) fun h=>za (zf .geq (atD b 0) h) fun j=>ifB j (some (.ret,[I6 10],[])) (za (zf .lss (atD b 1) (I6 (-127))) fun k=>ifB k (some (.ret,[I6 3],[])) (za (zf .gtr (atD b 1) (I6 127)) fun l=>ifB l (some (.ret,[I6 3],[])) (za (jT 2 d none (some (zh c 0))) fun m=>b1 (O 164 [S1 m,SA [atD b 0,atD b 1]]) fun n=>ifB n (some (.ret,[I6 9],[])) (za (zf .add (zh c 0) (I6 1)) fun o=>some (.normal,[o],[]))))))) (some (.exit 0,[],[]))
def zBA(O:Orc)(a _b _c b:DV):Option DA:=za (yV b) fun d=>za (zf .gtr d (I6 8)) fun e=>ifB e (some (S1 (I6 4))) (za (yV b) fun f=>yc (zB (zit O f b a) [I6 0] []) (fun g _c _h=>bif Nat.beq g 0 then (some (S1 (I6 0))) else(none)) (fun c _h=>some (S1 (zh c 0))))
theorem zC2(O:Orc)(a b c a1:DV):pF O zzm 135 [SA [a,b,c],S1 a1]=zBA O a b c a1:=by kernel_rfl
def zzl:Nat→Option LA:=fun i=>match i with|0=>some ⟨[.slot 8],[],[],[],[],[],[.slot 4],[],[]⟩|_=>none
def zis(O:Orc)(c d e:DV)(b:List DV)(_j:List OC):Option PX:=za (zf .lss (zh b 0) c) fun f=>ifB f (za (yy 5 d (zh b 0)) fun a=>b1 (zeW O e [SA [atD a 0,atD a 1,atD a 2,atD a 3,atD a 4]]) fun g=>ifB g (some (.ret,[zh b 0],[])) (za (zf .add (zh b 0) (I6 1)) fun h=>some (.normal,[h],[]))) (some (.exit 0,[],[]))
def zBz(O:Orc)(a c:DV):Option DA:=za (yV a) fun d=>yc (zB (zis O d a c) [I6 0] []) (fun e _b _f=>bif Nat.beq e 0 then (some (S1 (I6 (-1)))) else(none)) (fun b _f=>some (S1 (zh b 0)))
theorem zC1(O:Orc)(a0 a1:DV):pF O zzl 136 [S1 a0,S1 a1]=zBz O a0 a1:=by kernel_rfl
def zzk:Nat→Option LA:=fun i=>match i with|0=>some ⟨[.slot 1,.slot 0],[],[],[],[.slot 0],[],[],[],[]⟩|_=>none
def zlK(a:List DV)(_d:List OC):Option PX:=za (zf .gtr (zh a 0) (U64 0)) fun b=>ifB b (za (zf .rem (zh a 1) (zh a 0)) fun c=>some (.normal,[c,zh a 0],[])) (some (.exit 0,[zh a 1],[]))
def zBy(_O:Orc)(b c:DV):Option DA:=yc (zB zlK [c,b] []) (fun d a _e=>bif Nat.beq d 0 then (some (S1 (zh a 0))) else(none)) (fun _a _e=>none)
theorem zC0(O:Orc)(a0 a1:DV):pF O zzk 150 [S1 a0,S1 a1]=zBy O a0 a1:=by kernel_rfl
def zBx(_O:Orc)(a:DV):Option DA:=za (zf .lss a (I6 0)) fun b=>ifB b (za (yi .u64 a) fun c=>za (zxF c) fun d=>some (S1 d)) (za (yi .u64 a) fun e=>some (S1 e))
theorem zCZ(O:Orc)(a0:DV):pF O an0 151 [S1 a0]=zBx O a0:=by kernel_rfl
def zzj:Nat→Option LA:=fun i=>match i with|0=>some ⟨[.slot 8],[],[],[],[],[],[.slot 4],[],[]⟩|_=>none
def zir(O:Orc)(b c d:DV)(a:List DV)(_j:List OC):Option PX:=za (zf .lss (zh a 0) b) fun e=>ifB e (za (yy 1 c (zh a 0)) fun f=>b1 (zeW O d [S1 (atD f 0)]) fun g=>ifB g (some (.ret,[zh a 0],[])) (za (zf .add (zh a 0) (I6 1)) fun h=>some (.normal,[h],[]))) (some (.exit 0,[],[]))
def zBw(O:Orc)(a c:DV):Option DA:=za (yV a) fun d=>yc (zB (zir O d a c) [I6 0] []) (fun e _b _f=>bif Nat.beq e 0 then (some (S1 (I6 (-1)))) else(none)) (fun b _f=>some (S1 (zh b 0)))
theorem zCY(O:Orc)(a0 a1:DV):pF O zzj 163 [S1 a0,S1 a1]=zBw O a0 a1:=by kernel_rfl
def zBv(O:Orc)(c a b:DV):Option DA:=b1 (O 177 [S1 c,SA [a,b]]) fun d=>za (zf .geq d (I6 0)) fun e=>some (S1 e)
theorem zCX(O:Orc)(a0 a b:DV):pF O an0 164 [S1 a0,SA [a,b]]=zBv O a0 a b:=by kernel_rfl
def zzi:Nat→Option LA:=fun i=>match i with|0=>some ⟨[.slot 8],[],[],[],[],[],[.slot 4],[],[]⟩|_=>none
def ziq(e f a b:DV)(c:List DV)(_k:List OC):Option PX:=za (zf .lss (zh c 0) e) fun g=>ifB g (za (yy 2 f (zh c 0)) fun d=>za (zb1 [1,1] [a,b] [atD d 0,atD d 1]) fun h=>ifB (.bool h) (some (.ret,[zh c 0],[])) (za (zf .add (zh c 0) (I6 1)) fun j=>some (.normal,[j],[]))) (some (.exit 0,[],[]))
def zBu(_O:Orc)(c a b:DV):Option DA:=za (yV c) fun e=>yc (zB (ziq e c a b) [I6 0] []) (fun f _d _g=>bif Nat.beq f 0 then (some (S1 (I6 (-1)))) else(none)) (fun d _g=>some (S1 (zh d 0)))
theorem zCW(O:Orc)(a0 a b:DV):pF O zzi 177 [S1 a0,SA [a,b]]=zBu O a0 a b:=by kernel_rfl
def P12(O:Orc)(a b c d f h j m r s:DV):Option DA:=b1s (O 28 [SA [a,b,c,d],S1 (.lst 3 [[f,h,j],[m,r,s]])]) fun g=>za (zf .neq g (I6 0)) fun k=>ifB k (some (.tup [.agg [I6 0,I6 0],.one (.bool false),.one g])) (b1 (O 29 [SA [a,b,c,d],SA [f,h,j]]) fun l=>b1 (O 29 [SA [a,b,c,d],SA [m,r,s]]) fun n=>bT [some 2,none] (O 36 [SA [a,b,c,d],S1 l,S1 n,S1 (.fn 37 [])]) fun e=>some (.tup [.agg [atD (dsA (jL e 0)) 0,atD (dsA (jL e 0)) 1],.one (dsO (jL e 1)),.one (I6 0)]))
theorem p12(O:Orc)(a b c d f h j m r s:DV):pF O an0 12 [SA [a,b,c,d],SA [f,h,j],SA [m,r,s]]=P12 O a b c d f h j m r s:=by kernel_rfl
def zCI:Nat→Option LA:=fun i=>match i with|0=>some ⟨[.slot 16],[],[],[],[],[],[.slot 4],[],[]⟩|_=>none
def zq2(O:Orc)(h j a b c d:DV)(e:List DV)(_n:List OC):Option PX:=za (zf .lss (zh e 0) h) fun k=>ifB k (za (yy 3 j (zh e 0)) fun f=>b1 (O 55 [SA [a,b,c,d],SA [atD f 0,atD f 1,atD f 2]]) fun g=>za (zf .neq g (I6 0)) fun l=>ifB l (some (.ret,[g],[])) (za (zf .add (zh e 0) (I6 1)) fun m=>some (.normal,[m],[]))) (some (.exit 0,[],[]))
def P28(O:Orc)(a b c d e:DV):Option DA:=b1 (O 54 [SA [a,b,c,d]]) fun f=>za (zf .neq f (I6 0)) fun h=>ifB h (some (S1 f)) (za (yV e) fun j=>yc (zB (zq2 O j e a b c d) [I6 0] []) (fun k _g _l=>bif Nat.beq k 0 then (some (S1 (I6 0))) else(none)) (fun g _l=>some (S1 (zh g 0))))
theorem p28(O:Orc)(a b c d a1:DV):pF O zCI 28 [SA [a,b,c,d],S1 a1]=P28 O a b c d a1:=by kernel_rfl
def zCE:Nat→Option LA:=fun i=>match i with|0=>some ⟨[.slot 14,.cell 1 0,.cell 1 1],[],[(1,2)],[],[.cell 1 0,.cell 1 1],[],[.slot 9,.cell 1 0,.cell 1 1],[],[]⟩|1=>some ⟨[.slot 22,.cell 1 0,.cell 1 1],[],[(1,2)],[],[.cell 1 0,.cell 1 1],[],[.slot 9,.cell 1 0,.cell 1 1],[],[]⟩|_=>none
def zib(O:Orc)(d e:DV)(c:List DV)(f g a:DV)(b:List DV)(_s:List OC):Option PX:=za (zf .lss (zh b 0) d) fun h=>ifB h (za (yy 1 e (zh c 0)) fun j=>za (yy 1 (atD j 0) (zh b 0)) fun k=>za (yy 1 f (zh c 0)) fun l=>za (yy 1 (atD l 0) (zh b 0)) fun m=>b1 (zeW O g [S1 (atD k 0),S1 (atD m 0)]) fun n=>za (zai n) fun o=>ifB o (za (yy 5 a (zh c 0)) fun p=>za (zf .add (atD p 2) (zh b 0)) fun q=>some (.ret,[.bool false,zh c 0,q],[])) (za (zf .add (zh b 0) (I6 1)) fun r=>some (.normal,[r,zh b 1,zh b 2],[]))) (some (.exit 2,[zh b 1,zh b 2],[]))
def znj(O:Orc)(f e g h a:DV)(c:List DV)(_p:List OC):Option PX:=za (zf .lss (zh c 0) f) fun j=>ifB j (za (yy 1 e (zh c 0)) fun k=>za (yV (atD k 0)) fun l=>yc (zB (zib O l e c g h a) [I6 0,zh c 1,zh c 2] []) (fun d b _m=>bif Nat.beq d 2 then (za (zf .add (zh c 0) (I6 1)) fun n=>some (.normal,[n,zh b 0,zh b 1],[])) else(bif Nat.beq d 1 then (za (zf .add (zh c 0) (I6 1)) fun o=>some (.normal,[o,zh b 0,zh b 1],[])) else(some (.exit d,[zh b 0,zh b 1],[])))) (fun b _m=>some (.ret,[zh b 0,zh b 1,zh b 2],[]))) (some (.exit 0,[zh c 1,zh c 2],[]))
def P36(O:Orc)(_a _b c _d b d e:DV):Option DA:=za (yV b) fun f=>yc (zB (znj O f b d e c) [I6 0,I6 0,I6 0] []) (fun g _a _h=>bif Nat.beq g 0 then (some (.tup [.agg [I6 0,I6 0],.one (.bool true)])) else(none)) (fun a _h=>some (.tup [.agg [zh a 1,zh a 2],.one (zh a 0)]))
theorem p36(O:Orc)(a b c d a1 a2 a3:DV):pF O zCE 36 [SA [a,b,c,d],S1 a1,S1 a2,S1 a3]=P36 O a b c d a1 a2 a3:=by kernel_rfl
def zCD:Nat→Option LA:=fun i=>match i with|0=>some ⟨[.slot 13],[],[],[],[],[],[.slot 4],[],[]⟩|_=>none
def zqZ(d e f:DV)(a:List DV)(_k:List OC):Option PX:=za (zf .lss (zh a 0) d) fun g=>ifB g (za (yy 2 e (zh a 0)) fun b=>za (yy 2 f (zh a 0)) fun c=>za (zb1 [1,1] [atD b 0,atD b 1] [atD c 0,atD c 1]) fun h=>ifB (.bool (!h)) (some (.ret,[.bool false],[])) (za (zf .add (zh a 0) (I6 1)) fun j=>some (.normal,[j],[]))) (some (.exit 0,[],[]))
def P37(_O:Orc)(a b:DV):Option DA:=za (yV a) fun d=>za (yV b) fun e=>za (zf .neq d e) fun f=>ifB f (some (S1 (.bool false))) (za (yV a) fun g=>yc (zB (zqZ g a b) [I6 0] []) (fun h _c _j=>bif Nat.beq h 0 then (some (S1 (.bool true))) else(none)) (fun c _j=>some (S1 (zh c 0))))
theorem p37(O:Orc)(a0 a1:DV):pF O zCD 37 [S1 a0,S1 a1]=P37 O a0 a1:=by kernel_rfl
def zCx:Nat→Option LA:=fun i=>match i with|0=>some ⟨[.slot 17],[(.slot 7,2)],[],[],[],[(.slot 7,2)],[],[],[]⟩|_=>none
def zzd:Nat→List PA→Nat→Nat→Option LA:=fun h _ n i=>match h,n,i with|60,2,0=>some ⟨[.slot 3],[(.slot 0,2)],[],[],[],[(.slot 0,2)],[.slot 2],[],[]⟩|60,2,1=>some ⟨[.slot 5,.slot 3],[],[],[(2,2)],[.slot 3],[],[],[],[]⟩|_,_,_=>none
def zh9(b:Nat×Nat)(a:List DV)(c:List OC):Option PX:=za (zf .lss (zh a 0) (.int .i64 (.ofNat b.2))) fun g=>ifB g (za (vu b.2 (zh a 0)) fun h=>za (vZ (zq c 0) (b.1+h)) fun d=>za (zf .sub (zh a 0) (I6 1)) fun j=>za (vu b.2 j) fun k=>za (vZ (zq c 0) (b.1+k)) fun e=>za (zb1 [1,1] [atD d 0,atD d 1] [atD e 0,atD e 1]) fun l=>ifB (.bool (!l)) (za (vu b.2 (zh a 0)) fun m=>za (vZ (zq c 0) (b.1+m)) fun f=>za (y2 (zq c 0) (zh a 1)) fun n=>za (zgR 2 (zq c 0) n 0 [atD f 0,atD f 1]) fun o=>za (zf .add (zh a 1) (I6 1)) fun p=>za (zf .add (zh a 0) (I6 1)) fun q=>some (.normal,[q,p],[o])) (za (zf .add (zh a 0) (I6 1)) fun r=>some (.normal,[r,zh a 1],[zq c 0]))) (some (.exit 2,[zh a 1],[zq c 0]))
def jH(b:List DV)(a:List OC):Option PX:=za (zf .lss (zh b 0) (I6 (Int.ofNat (xt (zq a 0))))) fun k=>ifB k (za (y2 (zq a 0) (zh b 0)) fun l=>za (vZ (zq a 0) l) fun g=>za (zf .sub (zh b 0) (I6 1)) fun m=>za (y2 (zq a 0) m) fun n=>za (vZ (zq a 0) n) fun h=>za (zb1 [1,1] [atD g 0,atD g 1] [atD h 0,atD h 1]) fun o=>ifB (.bool o) (za (vwB (some (zh b 0)) none (xt (zq a 0))) fun p=>yc (zB (zh9 p) [I6 1,zh b 0] [zq a 0]) (fun f d c=>bif Nat.beq f 2 then (za (vwB (some (zh d 0)) none (xt (zq c 0))) fun e=>za (vwB none (some (zh d 0)) (xt (ziB (zq c 0) e.1 e.2 [I6 0,I6 0]))) fun j=>some (.ret,[zcI 2 j.1 j.2 (mkL 2 (ziB (zq c 0) e.1 e.2 [I6 0,I6 0]))],[])) else(bif Nat.beq f 1 then (za (zf .add (zh d 0) (I6 1)) fun q=>some (.normal,[q],[zq c 0])) else(some (.exit f,[],[zq c 0])))) (fun _d _c=>none)) (za (zf .add (zh b 0) (I6 1)) fun r=>some (.normal,[r],[zq a 0]))) (some (.exit 0,[],[zq a 0]))
def zqS(O:Orc)(e:DV)(f:List DV)(g h:DV)(a:List DV)(b:List OC):Option PX:=za (zf .lss (zh a 0) e) fun j=>ifB j (za (yy 2 (atD f 2) (zh a 0)) fun d=>bT [some 2,none] (O 77 [S1 g,SA [atD d 0,atD d 1],S1 h]) fun c=>ifB (dsO (jL c 1)) (gd (fits 16 (xt (zq b 0)+1)) (za (zf .add (zh a 0) (I6 1)) fun k=>some (.normal,[k],[some (zM (zq b 0)++[[atD (dsA (jL c 0)) 0,atD (dsA (jL c 0)) 1]])]))) (za (zf .add (zh a 0) (I6 1)) fun l=>some (.normal,[l],[zq b 0]))) (some (.exit 0,[],[zq b 0]))
def P56(O:Orc)(l a b c d f:DV):Option DA:=bA 3 (O 76 [SA [a,b,c,d],S1 f]) fun g=>za (yV (atD g 2)) fun m=>yc (zB (zqS O m g l f) [I6 0] [none]) (fun n _o h=>bif Nat.beq n 0 then (za (znK 2 (zq h 0)) fun e=>za (zf .lss (I6 (Int.ofNat (xt e))) (I6 2)) fun p=>ifB p (some (S1 (mkL 2 e))) (yc (zB jH [I6 1] [e]) (fun q _j k=>bif Nat.beq q 0 then (some (S1 (mkL 2 (zq k 0)))) else(none)) (fun j _k=>some (S1 (zh j 0))))) else(none)) (fun _o _h=>none)
theorem p56(O:Orc)(a0 a b c d a2:DV):zkx prog O uM (inl prog O uM zzd redI 4) zCx 56 [S1 a0,SA [a,b,c,d],S1 a2]=P56 O a0 a b c d a2:=by kernel_rfl
def zCw:Nat→Option LA:=fun i=>match i with|0=>some ⟨[.slot 9],[(.cell 3 0,2)],[(3,1)],[],[],[(.cell 3 0,2)],[.cell 3 0],[],[]⟩|_=>none
def zzc:Nat→List PA→Nat→Nat→Option LA:=fun h _ n i=>match h,n,i with|79,4,0=>some ⟨[.slot 14],[(.cell 3 0,2)],[(3,1)],[],[],[(.cell 3 0,2)],[.cell 3 0],[],[]⟩|79,7,0=>some ⟨[.slot 14],[(.cell 3 0,2)],[(3,1)],[],[],[(.cell 3 0,2)],[.cell 3 0],[],[]⟩|_,_,_=>none
def zh7(O:Orc)(k a b:DV)(h:List DV)(c:DV)(d:List DV)(e:List OC):Option PX:=za (zf .lss (zh d 0) k) fun l=>ifB l (za (yy 5 a (zh d 0)) fun f=>za (yj false b (zh d 0)) fun m=>za (zf .and m (U64 1)) fun n=>za (zf .eql n (U64 0)) fun o=>ifB o (za (zf .add (zh d 0) (I6 1)) fun p=>some (.normal,[p],[zq e 0])) (za (zf .neq (atD f 1) (atD h 0)) fun q=>ifB q (za (zf .add (zh d 0) (I6 1)) fun r=>some (.normal,[r],[zq e 0])) (za (zai (atD f 4)) fun s=>ifB s (za (zf .add (zh d 0) (I6 1)) fun t=>some (.normal,[t],[zq e 0])) (za (zf .add (atD h 1) (atD f 3)) fun g=>za (yy 5 c (atD f 2)) fun j=>za (zf .geq g (atD j 2)) fun v=>ifB v (za (zf .leq g (atD j 3)) fun w=>ifB w (b1s (O 80 [S1 (mkL 2 (zq e 0)),SA [atD f 2,g]]) fun x=>za (zai x) fun y=>ifB y (gd (fits 16 (xt (zq e 0)+1)) (za (zf .add (zh d 0) (I6 1)) fun z=>some (.normal,[z],[some (zM (zq e 0)++[[atD f 2,g]])]))) (za (zf .add (zh d 0) (I6 1)) fun A=>some (.normal,[A],[zq e 0]))) (za (zf .add (zh d 0) (I6 1)) fun B=>some (.normal,[B],[zq e 0]))) (za (zf .add (zh d 0) (I6 1)) fun C=>some (.normal,[C],[zq e 0])))))) (some (.exit 0,[],[zq e 0]))
def zh8(O:Orc)(a b c:DV)(e:List DV)(d:List OC):Option PX:=za (zf .lss (zh e 0) (I6 (Int.ofNat (xt (zq d 0))))) fun g=>ifB g (za (y2 (zq d 0) (zh e 0)) fun h=>za (vZ (zq d 0) h) fun j=>za (yV a) fun k=>yc (zB (zh7 O k a b j c) [I6 0] [zq d 0]) (fun l _m f=>bif Nat.beq l 0 then (za (zf .add (zh e 0) (I6 1)) fun n=>some (.normal,[n],[zq f 0])) else(none)) (fun _m _f=>none)) (some (.exit 0,[],[zq d 0]))
def zqR(O:Orc)(l a b c d f:DV)(e:List DV)(g:List OC):Option PX:=za (zf .lss (zh e 0) l) fun m=>ifB m (za (yy 5 a (zh e 0)) fun h=>za (yj false b (zh e 0)) fun n=>za (zf .and n (U64 1)) fun o=>za (zf .eql o (U64 0)) fun p=>ifB p (za (zf .add (zh e 0) (I6 1)) fun q=>some (.normal,[q],[zq g 0])) (za (zf .neq (atD h 1) c) fun r=>ifB r (za (zf .add (zh e 0) (I6 1)) fun s=>some (.normal,[s],[zq g 0])) (za (zf .add d (atD h 3)) fun j=>za (yy 5 f (atD h 2)) fun k=>za (zf .geq j (atD k 2)) fun t=>ifB t (za (zf .leq j (atD k 3)) fun v=>ifB v (b1s (O 80 [S1 (mkL 2 (zq g 0)),SA [atD h 2,j]]) fun w=>za (zai w) fun x=>ifB x (gd (fits 16 (xt (zq g 0)+1)) (za (zf .add (zh e 0) (I6 1)) fun y=>some (.normal,[y],[some (zM (zq g 0)++[[atD h 2,j]])]))) (za (zf .add (zh e 0) (I6 1)) fun z=>some (.normal,[z],[zq g 0]))) (za (zf .add (zh e 0) (I6 1)) fun A=>some (.normal,[A],[zq g 0]))) (za (zf .add (zh e 0) (I6 1)) fun B=>some (.normal,[B],[zq g 0]))))) (some (.exit 0,[],[zq g 0]))
def P57(O:Orc)(_a _b c d _f h j m r:DV):Option DA:=za (yV d) fun e=>yc (zB (zqR O e d h m r c) [I6 0] [none]) (fun f _g b=>bif Nat.beq f 0 then (yc (zB (zh8 O d h c) [I6 0] [zq b 0]) (fun k _l a=>bif Nat.beq k 0 then (za (yj false j m) fun n=>za (zf .and n (U64 1)) fun o=>za (zf .eql o (U64 0)) fun p=>ifB p (b1s (O 80 [S1 (mkL 2 (zq a 0)),SA [m,r]]) fun q=>za (zai q) fun t=>ifB t (gd (fits 16 (xt (zq a 0)+1)) (some (.s (.one (.lst 2 (zM (zq a 0)++[[m,r]])))))) (some (S1 (mkL 2 (zq a 0))))) (some (S1 (mkL 2 (zq a 0))))) else(none)) (fun _l _a=>none)) else(none)) (fun _g _b=>none)
theorem p57(O:Orc)(a b c d f h j m r:DV):zkx prog O uM (inl prog O uM zzc redI 4) zCw 57 [SA [a,b,c,d],SA [f,h,j],SA [m,r]]=P57 O a b c d f h j m r:=by kernel_rfl
def zCt:Nat→Option LA:=fun i=>match i with|0=>some ⟨[.slot 8],[],[],[],[],[],[.slot 4],[],[]⟩|_=>none
def zni(e f a b:DV)(c:List DV)(_k:List OC):Option PX:=za (zf .lss (zh c 0) e) fun g=>ifB g (za (yy 2 f (zh c 0)) fun d=>za (zb1 [1,1] [a,b] [atD d 0,atD d 1]) fun h=>ifB (.bool h) (some (.ret,[zh c 0],[])) (za (zf .add (zh c 0) (I6 1)) fun j=>some (.normal,[j],[]))) (some (.exit 0,[],[]))
def P66(_O:Orc)(c a b:DV):Option DA:=za (yV c) fun e=>yc (zB (zni e c a b) [I6 0] []) (fun f _d _g=>bif Nat.beq f 0 then (some (S1 (I6 (-1)))) else(none)) (fun d _g=>some (S1 (zh d 0)))
theorem p66(O:Orc)(a0 a b:DV):pF O zCt 66 [S1 a0,SA [a,b]]=P66 O a0 a b:=by kernel_rfl
def P76(O:Orc)(_a _b _c d c:DV):Option DA:=b1s (O 102 [S1 d,S1 (.fn 103 [[c]])]) fun b=>za (zf .lss b (I6 0)) fun e=>ifB e (some (SA [I6 0,I6 0,.nils])) (za (yy 3 d b) fun a=>some (SA [atD a 0,atD a 1,atD a 2]))
theorem p76(O:Orc)(a b c d a1:DV):pF O an0 76 [SA [a,b,c,d],S1 a1]=P76 O a b c d a1:=by kernel_rfl
def P77(_O:Orc)(d a b e:DV):Option DA:=za (zf .lss a (I6 0)) fun f=>ifB f (some (.tup [.agg [I6 0,I6 0],.one (.bool false)])) (za (yV d) fun g=>za (zf .geq a g) fun h=>ifB h (some (.tup [.agg [I6 0,I6 0],.one (.bool false)])) (za (zf .add e b) fun j=>za (yy 6 d a) fun k=>za (zf .sub j (atD k 4)) fun c=>za (zf .geq c (I6 0)) fun l=>ifB l (za (yy 6 d a) fun m=>za (yV (atD m 5)) fun n=>za (zf .lss c n) fun o=>some (.tup [.agg [a,c],.one o])) (some (.tup [.agg [a,c],.one (.bool false)]))))
theorem p77(O:Orc)(a0 a b a2:DV):pF O an0 77 [S1 a0,SA [a,b],S1 a2]=P77 O a0 a b a2:=by kernel_rfl
def P80(O:Orc)(c a b:DV):Option DA:=b1 (O 105 [S1 c,SA [a,b]]) fun d=>za (zf .geq d (I6 0)) fun e=>some (S1 e)
theorem p80(O:Orc)(a0 a b:DV):pF O an0 80 [S1 a0,SA [a,b]]=P80 O a0 a b:=by kernel_rfl
def zzp:Nat→Option LA:=fun i=>match i with|0=>some ⟨[.slot 8],[],[],[],[],[],[.slot 4],[],[]⟩|_=>none
def ziw(O:Orc)(c d e:DV)(a:List DV)(_j:List OC):Option PX:=za (zf .lss (zh a 0) c) fun f=>ifB f (za (yy 3 d (zh a 0)) fun b=>b1 (zeW O e [SA [atD b 0,atD b 1,atD b 2]]) fun g=>ifB g (some (.ret,[zh a 0],[])) (za (zf .add (zh a 0) (I6 1)) fun h=>some (.normal,[h],[]))) (some (.exit 0,[],[]))
def zBK(O:Orc)(a c:DV):Option DA:=za (yV a) fun d=>yc (zB (ziw O d a c) [I6 0] []) (fun e _b _f=>bif Nat.beq e 0 then (some (S1 (I6 (-1)))) else(none)) (fun b _f=>some (S1 (zh b 0)))
theorem zDc(O:Orc)(a0 a1:DV):pF O zzp 102 [S1 a0,S1 a1]=zBK O a0 a1:=by kernel_rfl
def zBJ(_O:Orc)(a b _c d:DV):Option DA:=za (zf .leq a d) fun c=>ifB c (za (zf .leq d b) fun e=>some (S1 e)) (some (S1 (.bool false)))
theorem zDb(O:Orc)(a b c d:DV):pF O an0 103 [SA [a,b,c],S1 (.fp [d] 0)]=zBJ O a b c d:=by kernel_rfl
def zzo:Nat→Option LA:=fun i=>match i with|0=>some ⟨[.slot 8],[],[],[],[],[],[.slot 4],[],[]⟩|_=>none
def zug(e f a b:DV)(c:List DV)(_k:List OC):Option PX:=za (zf .lss (zh c 0) e) fun g=>ifB g (za (yy 2 f (zh c 0)) fun d=>za (zb1 [1,1] [a,b] [atD d 0,atD d 1]) fun h=>ifB (.bool h) (some (.ret,[zh c 0],[])) (za (zf .add (zh c 0) (I6 1)) fun j=>some (.normal,[j],[]))) (some (.exit 0,[],[]))
def zBH(_O:Orc)(c a b:DV):Option DA:=za (yV c) fun e=>yc (zB (zug e c a b) [I6 0] []) (fun f _d _g=>bif Nat.beq f 0 then (some (S1 (I6 (-1)))) else(none)) (fun d _g=>some (S1 (zh d 0)))
theorem zC9(O:Orc)(a0 a b:DV):pF O zzo 105 [S1 a0,SA [a,b]]=zBH O a0 a b:=by kernel_rfl
def zCH:Nat→Option LA:=fun i=>match i with|0=>some ⟨[.slot 26],[],[],[(2,1)],[],[],[],[],[]⟩|1=>some ⟨[.slot 8],[(.lnk 5,1)],[],[],[],[(.lnk 5,1)],[.lnk 5],[],[1001006002]⟩|2=>some ⟨[.slot 44],[(.slot 9,2)],[],[],[],[(.slot 9,2)],[],[],[]⟩|3=>some ⟨[.slot 84],[],[],[(3,1)],[],[],[],[],[]⟩|4=>some ⟨[.slot 15],[(.lnk 6,1)],[],[],[],[(.lnk 6,1)],[.lnk 6],[],[1001013003]⟩|5=>some ⟨[.slot 106],[(.slot 16,2)],[],[],[],[(.slot 16,2)],[],[],[]⟩|_=>none
def zzf:Nat→List PA→Nat→Nat→Option LA:=fun h _ n i=>match h,n,i with|1000060,1,0=>some ⟨[.slot 3],[(.slot 0,2)],[],[],[],[(.slot 0,2)],[.slot 2],[],[]⟩|1000060,1,1=>some ⟨[.slot 5,.slot 3],[],[],[(1,2)],[.slot 3],[],[],[],[]⟩|_,_,_=>none
def zzv(b:Nat×Nat)(a:List DV)(c:List OC):Option PX:=za (zf .lss (zh a 0) (.int .i64 (.ofNat b.2))) fun g=>ifB g (za (vu b.2 (zh a 0)) fun h=>za (vZ (zq c 0) (b.1+h)) fun d=>za (zf .sub (zh a 0) (I6 1)) fun j=>za (vu b.2 j) fun k=>za (vZ (zq c 0) (b.1+k)) fun e=>za (zb1 [1,1] [atD d 0,atD d 1] [atD e 0,atD e 1]) fun l=>ifB (.bool (!l)) (za (vu b.2 (zh a 0)) fun m=>za (vZ (zq c 0) (b.1+m)) fun f=>za (y2 (zq c 0) (zh a 1)) fun n=>za (zgR 2 (zq c 0) n 0 [atD f 0,atD f 1]) fun o=>za (zf .add (zh a 1) (I6 1)) fun p=>za (zf .add (zh a 0) (I6 1)) fun q=>some (.normal,[q,p],[o])) (za (zf .add (zh a 0) (I6 1)) fun r=>some (.normal,[r,zh a 1],[zq c 0]))) (some (.exit 2,[zh a 1],[zq c 0]))
def zuf(b:List DV)(a:List OC):Option PX:=za (zf .lss (zh b 0) (I6 (Int.ofNat (xt (zq a 0))))) fun k=>ifB k (za (y2 (zq a 0) (zh b 0)) fun l=>za (vZ (zq a 0) l) fun g=>za (zf .sub (zh b 0) (I6 1)) fun m=>za (y2 (zq a 0) m) fun n=>za (vZ (zq a 0) n) fun h=>za (zb1 [1,1] [atD g 0,atD g 1] [atD h 0,atD h 1]) fun o=>ifB (.bool o) (za (vwB (some (zh b 0)) none (xt (zq a 0))) fun p=>yc (zB (zzv p) [I6 1,zh b 0] [zq a 0]) (fun f d c=>bif Nat.beq f 2 then (za (vwB (some (zh d 0)) none (xt (zq c 0))) fun e=>za (vwB none (some (zh d 0)) (xt (ziB (zq c 0) e.1 e.2 [I6 0,I6 0]))) fun j=>some (.ret,[zcI 2 j.1 j.2 (mkL 2 (ziB (zq c 0) e.1 e.2 [I6 0,I6 0]))],[])) else(bif Nat.beq f 1 then (za (zf .add (zh d 0) (I6 1)) fun q=>some (.normal,[q],[zq c 0])) else(some (.exit f,[],[zq c 0])))) (fun _d _c=>none)) (za (zf .add (zh b 0) (I6 1)) fun r=>some (.normal,[r],[zq a 0]))) (some (.exit 0,[],[zq a 0]))
def zif(g h:DV)(e:List OC)(a:DV)(b:List DV)(c:List OC):Option PX:=za (zf .lss (zh b 0) g) fun j=>ifB j (za (yy 2 h (zh b 0)) fun d=>za (y2 (zq e 0) (atD d 0)) fun k=>za (vZ (zq e 0) k) fun l=>za (yy 5 a (atD d 0)) fun m=>za (zf .sub (atD d 1) (atD m 2)) fun n=>za (yy 1 (atD l 0) n) fun o=>za (v8 2 (atD o 0)) fun f=>gd (fits 16 (xt (zq c 0)+(f:List (List DV)).length)) (za (zf .add (zh b 0) (I6 1)) fun p=>some (.normal,[p],[zbU (zq c 0) f]))) (some (.exit 10,[],[zq c 0]))
def zig(O:Orc)(t:List DV)(a b c d f h j:DV)(k:List DV)(v l:List OC)(m:Nat)(g:List DV)(e:List OC):Option PX:=za (zf .leq (zh g 0) (atD t 3)) fun w=>ifB w (b1 (O 57 [SA [a,b,c,d],SA [f,h,j],SA [zh k 0,zh g 0]]) fun p=>za (yV p) fun x=>yc (zB (zif x p v c) [I6 0] [none]) (fun n _y q=>bif Nat.beq n 10 then (za (znK 2 (zq q 0)) fun o=>za (y2 (zq l 0) (zh k 0)) fun z=>gd (Nat.beq z m) (za (zf .lss (I6 (Int.ofNat (xt o))) (I6 2)) fun A=>ifB A (gd (fits 24 (xt (zq e 0)+1)) (za (y2 (zq l 0) (zh k 0)) fun B=>gd (Nat.beq B m) (za (zf .add (zh g 0) (I6 1)) fun C=>some (.normal,[C],[some (zM (zq e 0)++[[mkL 2 o]])])))) (yc (zB zuf [I6 1] [o]) (fun E _r s=>bif Nat.beq E 0 then (gd (fits 24 (xt (zq e 0)+1)) (za (y2 (zq l 0) (zh k 0)) fun F=>gd (Nat.beq F m) (za (zf .add (zh g 0) (I6 1)) fun G=>some (.normal,[G],[some (zM (zq e 0)++[[mkL 2 (zq s 0)]])])))) else(none)) (fun r _s=>gd (fits 24 (xt (zq e 0)+1)) (za (y2 (zq l 0) (zh k 0)) fun H=>gd (Nat.beq H m) (za (zf .add (zh g 0) (I6 1)) fun J=>some (.normal,[J],[some (zM (zq e 0)++[[zh r 0]])]))))))) else(bif Nat.beq n 9 then (za (zf .add (zh g 0) (I6 1)) fun K=>some (.normal,[K],[zq e 0])) else(some (.exit n,[],[zq e 0])))) (fun _y _q=>none)) (some (.exit 8,[],[zq e 0]))
def zih(O:Orc)(p a b c d f h j:DV)(q:List OC)(e:List DV)(g:List OC):Option PX:=za (zf .lss (zh e 0) p) fun r=>ifB r (za (yy 5 a (zh e 0)) fun n=>za (y2 (zq g 0) (zh e 0)) fun k=>za (vZ (zq g 0) k) fun s=>gdN (atD s 0) (yc (zB (zig O n b c a d f h j e q g k) [atD n 2] [none]) (fun l _t o=>za (zxe (zq g 0) k (mkL 1 (zq o 0))) fun m=>bif Nat.beq l 8 then (za (zf .add (zh e 0) (I6 1)) fun v=>some (.normal,[v],[m])) else(bif Nat.beq l 7 then (za (zf .add (zh e 0) (I6 1)) fun w=>some (.normal,[w],[m])) else(some (.exit l,[],[m])))) (fun _t _o=>none))) (some (.exit 6,[],[zq g 0]))
def zdI(O:Orc)(g:DV)(h:List DV)(a:DV)(j:List DV)(b:DV)(k:List DV)(c:List DV)(d:List OC):Option PX:=za (zf .lss (zh c 0) g) fun l=>ifB l (za (yy 4 (atD h 4) (zh c 0)) fun e=>za (yy 1 a (zh j 0)) fun m=>za (yj false (atD m 0) (zh c 0)) fun n=>za (zf .and n (U64 1)) fun o=>za (zf .eql o (U64 1)) fun p=>ifB p (b1 (O 56 [S1 b,SA [atD e 0,atD e 1,atD e 2,atD e 3],S1 (zh k 0)]) fun q=>za (v8 2 q) fun f=>gd (fits 16 (xt (zq d 0)+(f:List (List DV)).length)) (za (zf .add (zh c 0) (I6 1)) fun r=>some (.normal,[r],[zbU (zq d 0) f]))) (za (zf .add (zh c 0) (I6 1)) fun s=>some (.normal,[s],[zq d 0]))) (some (.exit 4,[],[zq d 0]))
def zii(O:Orc)(e:List DV)(a:DV)(f:List DV)(b:DV)(h:List OC)(j:Nat)(d:List DV)(c:List OC):Option PX:=za (zf .leq (zh d 0) (atD e 3)) fun l=>ifB l (za (yV (atD e 4)) fun m=>yc (zB (zdI O m e a f b d) [I6 0] [none]) (fun g _n k=>bif Nat.beq g 4 then (za (y2 (zq h 0) (zh f 0)) fun o=>gd (Nat.beq o j) (gd (fits 24 (xt (zq c 0)+1)) (za (y2 (zq h 0) (zh f 0)) fun p=>gd (Nat.beq p j) (za (zf .add (zh d 0) (I6 1)) fun q=>some (.normal,[q],[some (zM (zq c 0)++[[mkL 2 (zq k 0)]])]))))) else(bif Nat.beq g 3 then (za (zf .add (zh d 0) (I6 1)) fun r=>some (.normal,[r],[zq c 0])) else(some (.exit g,[],[zq c 0])))) (fun _n _k=>none)) (some (.exit 2,[],[zq c 0]))
def zq1(O:Orc)(l a b c:DV)(d:List DV)(e:List OC):Option PX:=za (zf .lss (zh d 0) l) fun m=>ifB m (za (yy 5 a (zh d 0)) fun j=>za (y2 (zq e 0) (zh d 0)) fun f=>za (vZ (zq e 0) f) fun n=>gdN (atD n 0) (yc (zB (zii O j b d c e f) [atD j 2] [none]) (fun g _o k=>za (zxe (zq e 0) f (mkL 1 (zq k 0))) fun h=>bif Nat.beq g 2 then (za (zf .add (zh d 0) (I6 1)) fun p=>some (.normal,[p],[h])) else(bif Nat.beq g 1 then (za (zf .add (zh d 0) (I6 1)) fun q=>some (.normal,[q],[h])) else(some (.exit g,[],[h])))) (fun _o _k=>none))) (some (.exit 0,[],[zq e 0]))
def P29(O:Orc)(a b c d f h j:DV):Option DA:=za (yV c) fun e=>za (mkN 24 e e) fun m=>za (yV c) fun n=>yc (zB (zq1 O n c f b) [I6 0] [some (List.replicate m [.nils])]) (fun o _p g=>bif Nat.beq o 0 then (za (yV c) fun k=>za (mkN 24 k k) fun q=>za (yV c) fun r=>yc (zB (zih O r c a b d f h j g) [I6 0] [some (List.replicate q [.nils])]) (fun s _t l=>bif Nat.beq s 6 then (some (S1 (mkL 1 (zq l 0)))) else(none)) (fun _t _l=>none)) else(none)) (fun _p _g=>none)
theorem p29(O:Orc)(a b c d f h j:DV):zkx prog O uM (inl prog O uM zzf redI 4) zCH 29 [SA [a,b,c,d],SA [f,h,j]]=P29 O a b c d f h j:=by kernel_rfl
def P3(O:Orc)(a b c d f h j m:DV):Option DA:=b1 (O 7 []) fun p=>za (zai p) fun q=>ifB q (b1 (O 7 []) fun r=>some (S1 r)) (b1 (O 8 [SA [a,b,c]]) fun s=>za (zai s) fun t=>ifB t (b1 (O 7 []) fun v=>some (S1 v)) (bA 4 (O 9 [SA [a,b,c]]) fun e=>bA 3 (O 10 [SA [atD e 0,atD e 1,atD e 2,atD e 3],SA [d,f,h,j,m]]) fun k=>bT [some 3,none] (O 11 [SA [atD e 0,atD e 1,atD e 2,atD e 3],SA [atD k 0,atD k 1,atD k 2]]) fun g=>za (zf .neq (dsO (jL g 1)) (I6 0)) fun w=>ifB w (some (S1 (.bool false))) (bT [some 2,none,none] (O 12 [SA [atD e 0,atD e 1,atD e 2,atD e 3],SA [atD k 0,atD k 1,atD k 2],SA [atD (dsA (jL g 0)) 0,atD (dsA (jL g 0)) 1,atD (dsA (jL g 0)) 2]]) fun n=>bT [none,none] (O 13 [SA [atD e 0,atD e 1,atD e 2,atD e 3],SA [atD (dsA (jL g 0)) 0,atD (dsA (jL g 0)) 1,atD (dsA (jL g 0)) 2]]) fun o=>bT [some 3,none] (O 11 [SA [atD e 0,atD e 1,atD e 2,atD e 3],SA [atD (dsA (jL g 0)) 0,atD (dsA (jL g 0)) 1,atD (dsA (jL g 0)) 2]]) fun l=>za (zf .eql (dsO (jL n 2)) (I6 0)) fun x=>ifB x (za (zf .eql (dsO (jL o 1)) (I6 0)) fun y=>ifB y (za (zf .eql (dsO (jL l 1)) (I6 0)) fun z=>ifB z (ifB (dsO (jL n 1)) (za (yV (dsO (jL o 0))) fun A=>za (zf .eql A (I6 0)) fun B=>ifB B (b1 (O 14 [SA [atD (dsA (jL l 0)) 0,atD (dsA (jL l 0)) 1,atD (dsA (jL l 0)) 2],SA [atD (dsA (jL g 0)) 0,atD (dsA (jL g 0)) 1,atD (dsA (jL g 0)) 2]]) fun C=>some (S1 C)) (some (S1 (.bool false)))) (some (S1 (.bool false)))) (some (S1 (.bool false)))) (some (S1 (.bool false)))) (some (S1 (.bool false))))))
theorem p3(O:Orc)(a b c d f h j m:DV):pF O an0 3 [SA [a,b,c],SA [d,f,h,j,m]]=P3 O a b c d f h j m:=by kernel_rfl
def zCO:Nat→Option LA:=fun i=>match i with|0=>some ⟨[.cell 2 0,.cell 2 1,.cell 2 2,.cell 1 0,.cell 1 1,.cell 1 2],[],[(2,3),(1,3)],[],[.cell 2 0,.cell 2 1,.cell 2 2,.cell 1 0,.cell 1 1,.cell 1 2],[],[.slot 5,.cell 2 0,.cell 2 1,.cell 2 2,.cell 1 0,.cell 1 1,.cell 1 2],[],[]⟩|_=>none
def zlL(O:Orc)(a b c d k:DV)(e:List DV)(_m:List OC):Option PX:=b1 (O 31 [SA [a,b,c,d],SA [zh e 3,zh e 4,zh e 5]]) fun h=>b1s (O 32 [S1 h,S1 (.fn 33 [[a,b,c,d],[k],[zh e 3,zh e 4,zh e 5]])]) fun j=>za (zf .lss j (I6 0)) fun l=>ifB l (some (.ret,[I6 0,zh e 3,zh e 4,zh e 5,zh e 3,zh e 4,zh e 5],[])) (za (yy 3 h j) fun f=>bA 3 (O 35 [SA [zh e 3,zh e 4,zh e 5],SA [atD f 0,atD f 1,atD f 2]]) fun g=>some (.normal,[zh e 0,zh e 1,zh e 2,atD g 0,atD g 1,atD g 2],[]))
def zBP(O:Orc)(a b c d k:DV)(e:List DV)(_m:List OC):Option PX:=b1 (O 31 [SA [a,b,c,d],SA [zh e 3,zh e 4,zh e 5]]) fun h=>b1s (O 32 [S1 h,S1 (.fn 33 [[a,b,c,d],[k],[zh e 3,zh e 4,zh e 5]])]) fun j=>za (zf .lss j (I6 0)) fun l=>ifB l (some (.ret,[I6 0,zh e 3,zh e 4,zh e 5,zh e 3,zh e 4,zh e 5],[])) (za (yy 3 h j) fun f=>bA 3 (O 35 [SA [zh e 3,zh e 4,zh e 5],SA [atD f 0,atD f 1,atD f 2]]) fun g=>some (.normal,[zh e 0,zh e 1,zh e 2,atD g 0,atD g 1,atD g 2],[]))
def P11(O:Orc)(a b c d f h j:DV):Option DA:=b1s (O 28 [SA [a,b,c,d],S1 (.lst 3 [[f,h,j]])]) fun k=>za (zf .neq k (I6 0)) fun n=>ifB n (some (.tup [.agg [.nils,U64 0,U64 0],.one k])) (b1 (O 29 [SA [a,b,c,d],SA [f,h,j]]) fun l=>za (zbY f) fun o=>ifB (.bool o) (yc (zB (zBP O a b c d l) [.nils,U64 0,U64 0,.nils,h,j] []) (fun p _e _q=>bif Nat.beq p 0 then none else none) (fun e _q=>some (.tup [.agg [zh e 1,zh e 2,zh e 3],.one (zh e 0)]))) (za (v8 1 f) fun m=>gd (fits 8 (xt (some [])+(m:List (List DV)).length)) (yc (zB (zlL O a b c d l) [.nils,U64 0,U64 0,mkL 1 (zbU (some []) m),h,j] []) (fun r _g _s=>bif Nat.beq r 0 then none else none) (fun g _s=>some (.tup [.agg [zh g 1,zh g 2,zh g 3],.one (zh g 0)])))))
theorem p11(O:Orc)(a b c d f h j:DV):pF O zCO 11 [SA [a,b,c,d],SA [f,h,j]]=P11 O a b c d f h j:=by kernel_rfl
def zCN:Nat→Option LA:=fun i=>match i with|0=>some ⟨[.slot 25],[(.slot 8,3)],[],[],[],[(.slot 8,3)],[],[],[]⟩|_=>none
def zq6(O:Orc)(m n a b c d f h j o:DV)(g:List DV)(k:List OC):Option PX:=za (zf .lss (zh g 0) m) fun p=>ifB p (za (yy 3 n (zh g 0)) fun e=>bA 3 (O 35 [SA [a,b,c],SA [atD e 0,atD e 1,atD e 2]]) fun l=>b1 (O 29 [SA [d,f,h,j],SA [atD l 0,atD l 1,atD l 2]]) fun q=>b1 (O 34 [SA [d,f,h,j],S1 o,S1 q]) fun r=>ifB r (gd (fits 24 (xt (zq k 0)+1)) (za (zf .add (zh g 0) (I6 1)) fun s=>some (.normal,[s],[some (zM (zq k 0)++[[atD e 0,atD e 1,atD e 2]])]))) (za (zf .add (zh g 0) (I6 1)) fun t=>some (.normal,[t],[zq k 0]))) (some (.exit 0,[],[zq k 0]))
def P13(O:Orc)(a b c d f h j:DV):Option DA:=b1s (O 28 [SA [a,b,c,d],S1 (.lst 3 [[f,h,j]])]) fun e=>za (zf .neq e (I6 0)) fun l=>ifB l (some (.tup [.one .nils,.one e])) (b1 (O 29 [SA [a,b,c,d],SA [f,h,j]]) fun m=>b1 (O 31 [SA [a,b,c,d],SA [f,h,j]]) fun g=>za (yV g) fun n=>yc (zB (zq6 O n g f h j a b c d m) [I6 0] [none]) (fun o _p k=>bif Nat.beq o 0 then (some (.tup [.one (mkL 3 (zq k 0)),.one (I6 0)])) else(none)) (fun _p _k=>none))
theorem p13(O:Orc)(a b c d f h j:DV):pF O zCN 13 [SA [a,b,c,d],SA [f,h,j]]=P13 O a b c d f h j:=by kernel_rfl
def P14(O:Orc)(a b c d f h:DV):Option DA:=b1 (O 25 [S1 a,S1 d]) fun e=>ifB e (za (zf .eql b f) fun g=>ifB g (za (zf .eql c h) fun j=>some (S1 j)) (some (S1 (.bool false)))) (some (S1 (.bool false)))
theorem p14(O:Orc)(a b c d f h:DV):pF O an0 14 [SA [a,b,c],SA [d,f,h]]=P14 O a b c d f h:=by kernel_rfl
def zCK:Nat→Option LA:=fun i=>match i with|0=>some ⟨[.slot 13],[],[],[],[],[],[.slot 4],[],[]⟩|_=>none
def zq3(b c d:DV)(a:List DV)(_k:List OC):Option PX:=za (zf .lss (zh a 0) b) fun e=>ifB e (za (yy 1 c (zh a 0)) fun f=>za (yy 1 d (zh a 0)) fun g=>za (zf .neq (atD f 0) (atD g 0)) fun h=>ifB h (some (.ret,[.bool false],[])) (za (zf .add (zh a 0) (I6 1)) fun j=>some (.normal,[j],[]))) (some (.exit 0,[],[]))
def P25(_O:Orc)(a b:DV):Option DA:=za (yV a) fun d=>za (yV b) fun e=>za (zf .neq d e) fun f=>ifB f (some (S1 (.bool false))) (za (yV a) fun g=>yc (zB (zq3 g a b) [I6 0] []) (fun h _c _j=>bif Nat.beq h 0 then (some (S1 (.bool true))) else(none)) (fun c _j=>some (S1 (zh c 0))))
theorem p25(O:Orc)(a0 a1:DV):pF O zCK 25 [S1 a0,S1 a1]=P25 O a0 a1:=by kernel_rfl
def zCG:Nat→Option LA:=fun i=>match i with|0=>some ⟨[.slot 14],[(.slot 5,3)],[],[],[],[(.slot 5,3)],[],[],[]⟩|1=>some ⟨[.slot 22],[(.slot 5,3)],[],[],[],[(.slot 5,3)],[],[],[]⟩|2=>some ⟨[.slot 45],[(.slot 5,3)],[],[],[],[(.slot 5,3)],[],[],[]⟩|3=>some ⟨[.slot 63],[(.slot 5,3)],[],[],[],[(.slot 5,3)],[],[],[]⟩|_=>none
def zic(d a:DV)(b:List DV)(c:List OC):Option PX:=za (zf .lss (zh b 0) d) fun e=>ifB e (za (yj false a (zh b 0)) fun f=>za (zf .and f (U64 1)) fun g=>za (zf .eql g (U64 1)) fun h=>ifB h (gd (fits 24 (xt (zq c 0)+1)) (za (zf .add (zh b 0) (I6 1)) fun j=>some (.normal,[j],[some (zM (zq c 0)++[[I6 3,I6 0,zh b 0]])]))) (za (zf .add (zh b 0) (I6 1)) fun k=>some (.normal,[k],[zq c 0]))) (some (.exit 6,[],[zq c 0]))
def zid(d a:DV)(b:List DV)(c:List OC):Option PX:=za (zf .lss (zh b 0) d) fun e=>ifB e (za (yj false a (zh b 0)) fun f=>za (zf .and f (U64 1)) fun g=>za (zf .eql g (U64 1)) fun h=>ifB h (gd (fits 24 (xt (zq c 0)+1)) (za (zf .add (zh b 0) (I6 1)) fun j=>some (.normal,[j],[some (zM (zq c 0)++[[I6 2,I6 0,zh b 0]])]))) (za (zf .add (zh b 0) (I6 1)) fun k=>some (.normal,[k],[zq c 0]))) (some (.exit 4,[],[zq c 0]))
def zie(e a:DV)(d:List DV)(b:List DV)(c:List OC):Option PX:=za (zf .lss (zh b 0) e) fun f=>ifB f (za (yy 1 a (zh d 0)) fun g=>za (yj false (atD g 0) (zh b 0)) fun h=>za (zf .and h (U64 1)) fun j=>za (zf .eql j (U64 1)) fun k=>ifB k (gd (fits 24 (xt (zq c 0)+1)) (za (zf .add (zh b 0) (I6 1)) fun l=>some (.normal,[l],[some (zM (zq c 0)++[[I6 1,zh d 0,zh b 0]])]))) (za (zf .add (zh b 0) (I6 1)) fun m=>some (.normal,[m],[zq c 0]))) (some (.exit 2,[],[zq c 0]))
def zq0(g a b:DV)(c:List DV)(f:List OC):Option PX:=za (zf .lss (zh c 0) g) fun h=>ifB h (za (yy 5 a (zh c 0)) fun j=>za (yV (atD j 4)) fun k=>yc (zB (zie k b c) [I6 0] [zq f 0]) (fun e _l d=>bif Nat.beq e 2 then (za (zf .add (zh c 0) (I6 1)) fun m=>some (.normal,[m],[zq d 0])) else(bif Nat.beq e 1 then (za (zf .add (zh c 0) (I6 1)) fun n=>some (.normal,[n],[zq d 0])) else(some (.exit e,[],[zq d 0])))) (fun _l _d=>none)) (some (.exit 0,[],[zq f 0]))
def P31(_O:Orc)(_a _b c d f h j:DV):Option DA:=za (yV c) fun g=>yc (zB (zq0 g c f) [I6 0] [none]) (fun k _l a=>bif Nat.beq k 0 then (za (yV d) fun m=>yc (zB (zid m h) [I6 0] [zq a 0]) (fun n _o b=>bif Nat.beq n 4 then (za (yV c) fun p=>yc (zB (zic p j) [I6 0] [zq b 0]) (fun q _r e=>bif Nat.beq q 6 then (some (S1 (mkL 3 (zq e 0)))) else(none)) (fun _r _e=>none)) else(none)) (fun _o _b=>none)) else(none)) (fun _l _a=>none)
theorem p31(O:Orc)(a b c d f h j:DV):pF O zCG 31 [SA [a,b,c,d],SA [f,h,j]]=P31 O a b c d f h j:=by kernel_rfl
def zCF:Nat→Option LA:=fun i=>match i with|0=>some ⟨[.slot 8],[],[],[],[],[],[.slot 4],[],[]⟩|_=>none
def zgz(O:Orc)(c d e:DV)(a:List DV)(_j:List OC):Option PX:=za (zf .lss (zh a 0) c) fun f=>ifB f (za (yy 3 d (zh a 0)) fun b=>b1 (zeW O e [SA [atD b 0,atD b 1,atD b 2]]) fun g=>ifB g (some (.ret,[zh a 0],[])) (za (zf .add (zh a 0) (I6 1)) fun h=>some (.normal,[h],[]))) (some (.exit 0,[],[]))
def P32(O:Orc)(a c:DV):Option DA:=za (yV a) fun d=>yc (zB (zgz O d a c) [I6 0] []) (fun e _b _f=>bif Nat.beq e 0 then (some (S1 (I6 (-1)))) else(none)) (fun b _f=>some (S1 (zh b 0)))
theorem p32(O:Orc)(a0 a1:DV):pF O zCF 32 [S1 a0,S1 a1]=P32 O a0 a1:=by kernel_rfl
def P33(O:Orc)(a b c d f h j m r s w:DV):Option DA:=bA 3 (O 35 [SA [r,s,w],SA [a,b,c]]) fun e=>b1 (O 29 [SA [d,f,h,j],SA [atD e 0,atD e 1,atD e 2]]) fun g=>b1 (O 34 [SA [d,f,h,j],.s (.one m),S1 g]) fun k=>some (S1 k)
theorem p33(O:Orc)(a b c d f h j m r s w:DV):pF O an0 33 [SA [a,b,c],S1 (.fp [d,f,h,j] 0),S1 (.fp [m] 0),S1 (.fp [r,s,w] 0)]=P33 O a b c d f h j m r s w:=by kernel_rfl
def P34(O:Orc)(a b c d e f:DV):Option DA:=bT [some 2,none] (O 36 [SA [a,b,c,d],S1 e,S1 f,S1 (.fn 37 [])]) fun g=>some (S1 (dsO (jL g 1)))
theorem p34(O:Orc)(a b c d a1 a2:DV):pF O an0 34 [SA [a,b,c,d],S1 a1,S1 a2]=P34 O a b c d a1 a2:=by kernel_rfl
def P35(_O:Orc)(a b c d f h:DV):Option DA:=za (zbY a) fun g=>ifB (.bool g) (za (zf .eql d (I6 1)) fun j=>ifB j (za (yy 1 .nils f) fun k=>za (yj true (U64 1) h) fun l=>za (zf .andNot (atD k 0) l) fun _H=>za (yy 1 .nils f) fun _J=>none) (za (zf .eql d (I6 2)) fun m=>ifB m (za (yj true (U64 1) h) fun n=>za (zf .andNot b n) fun o=>some (SA [.nils,o,c])) (za (zf .eql d (I6 3)) fun p=>ifB p (za (yj true (U64 1) h) fun q=>za (zf .andNot c q) fun r=>some (SA [.nils,b,r])) (some (SA [.nils,b,c]))))) (za (v8 1 a) fun e=>gd (fits 8 (xt (some [])+(e:List (List DV)).length)) (za (zf .eql d (I6 1)) fun s=>ifB s (za (y2 (zbU (some []) e) f) fun t=>za (vZ (zbU (some []) e) t) fun v=>za (yj true (U64 1) h) fun w=>za (zf .andNot (atD v 0) w) fun x=>za (y2 (zbU (some []) e) f) fun y=>za (zgR 1 (zbU (some []) e) y 0 [x]) fun z=>some (SA [mkL 1 z,b,c])) (za (zf .eql d (I6 2)) fun A=>ifB A (za (yj true (U64 1) h) fun B=>za (zf .andNot b B) fun C=>some (SA [mkL 1 (zbU (some []) e),C,c])) (za (zf .eql d (I6 3)) fun E=>ifB E (za (yj true (U64 1) h) fun F=>za (zf .andNot c F) fun G=>some (SA [mkL 1 (zbU (some []) e),b,G])) (some (SA [mkL 1 (zbU (some []) e),b,c]))))))
theorem p35(O:Orc)(a b c d f h:DV):pF O an0 35 [SA [a,b,c],SA [d,f,h]]=P35 O a b c d f h:=by kernel_rfl
def zCL:Nat→Option LA:=fun i=>match i with|0=>some ⟨[.slot 13],[],[],[],[],[],[.slot 4],[],[]⟩|_=>none
def zq4(d e f:DV)(a:List DV)(_k:List OC):Option PX:=za (zf .lss (zh a 0) d) fun g=>ifB g (za (yy 3 e (zh a 0)) fun b=>za (yy 3 f (zh a 0)) fun c=>za (zb1 [1,1,1] [atD b 0,atD b 1,atD b 2] [atD c 0,atD c 1,atD c 2]) fun h=>ifB (.bool (!h)) (some (.ret,[.bool false],[])) (za (zf .add (zh a 0) (I6 1)) fun j=>some (.normal,[j],[]))) (some (.exit 0,[],[]))
def P23(_O:Orc)(a b:DV):Option DA:=za (yV a) fun d=>za (yV b) fun e=>za (zf .neq d e) fun f=>ifB f (some (S1 (.bool false))) (za (yV a) fun g=>yc (zB (zq4 g a b) [I6 0] []) (fun h _c _j=>bif Nat.beq h 0 then (some (S1 (.bool true))) else(none)) (fun c _j=>some (S1 (zh c 0))))
theorem p23(O:Orc)(a0 a1:DV):pF O zCL 23 [S1 a0,S1 a1]=P23 O a0 a1:=by kernel_rfl
def anT(g:Nat):Nat→Option LA:=match g with
 |8=>an8
 |9=>an9
 |10=>zCP
 |54=>zCz
 |55=>zCy
 |26=>zCJ
 |71=>zCr
 |74=>zCq
 |75=>zCp
 |99=>zCm
 |70=>zCs
 |134=>zzn
 |135=>zzm
 |136=>zzl
 |150=>zzk
 |163=>zzj
 |177=>zzi
 |28=>zCI
 |36=>zCE
 |37=>zCD
 |56=>zCx
 |57=>zCw
 |66=>zCt
 |102=>zzp
 |105=>zzo
 |29=>zCH
 |11=>zCO
 |13=>zCN
 |25=>zCK
 |31=>zCG
 |32=>zCF
 |23=>zCL
 |_=>an0
def zgB(g:Nat):Nat→List PA→Nat→Nat→Option LA:=match g with
 |56=>zzd
 |57=>zzc
 |29=>zzf
 |_=>zzh
end Go.Proofs.Tryz.Kn
end
noncomputable section
namespace Go.Proofs.Tryz.Kc
open Go Go.CE Go.PE
abbrev prog:Program:=Tryz.prog
def uM:Nat→Bool:=fun g=>match g with|_=>false
abbrev redI:Red:=zx4
def an0:Nat→Option LA:=fun _=>none
def zzh:Nat→List PA→Nat→Nat→Option LA:=fun _ _ _ _=>none
abbrev pF(O:Orc)(an:Nat→Option LA)(g:Nat)(args:List DA):Option DA:=zkx prog O uM (inl prog O uM zzh redI 1) an g args
def P59(O:Orc)(a b c d:DV):Option DA:=b1 (O 84 [S1 a,S1 c]) fun e=>b1 (O 84 [S1 b,S1 d]) fun f=>b1s (O 83 [S1 (.lst 1 [[e],[f]])]) fun g=>some (S1 g)
theorem p59(O:Orc)(a b c d:DV):pF O an0 59 [SA [a,b],SA [c,d]]=P59 O a b c d:=by kernel_rfl
def zBI(O:Orc)(a b c d:DV):Option DA:=b1 (O 84 [S1 a,S1 c]) fun e=>b1 (O 84 [S1 b,S1 d]) fun f=>b1s (O 83 [S1 (.lst 1 [[e],[f]])]) fun g=>some (S1 g)
theorem zDa(O:Orc)(a b c d:DV):pF O an0 104 [SA [a,b],SA [c,d]]=zBI O a b c d:=by kernel_rfl
def zCo:Nat→Option LA:=fun i=>match i with|0=>some ⟨[.slot 8],[],[],[],[],[],[.slot 2],[],[]⟩|_=>none
def zjX(c d:DV)(a:List DV)(_h:List OC):Option PX:=za (zf .lss (zh a 0) c) fun e=>ifB e (za (yy 1 d (zh a 0)) fun b=>za (zf .neq (atD b 0) (I6 0)) fun f=>ifB f (some (.ret,[atD b 0],[])) (za (zf .add (zh a 0) (I6 1)) fun g=>some (.normal,[g],[]))) (some (.exit 0,[],[]))
def P83(_O:Orc)(a:DV):Option DA:=za (yV a) fun c=>yc (zB (zjX c a) [I6 0] []) (fun d _b _e=>bif Nat.beq d 0 then (some (S1 (I6 0))) else(none)) (fun b _e=>some (S1 (zh b 0)))
theorem p83(O:Orc)(a0:DV):pF O zCo 83 [S1 a0]=P83 O a0:=by kernel_rfl
def P84(O:Orc)(a b:DV):Option DA:=b1 (O 116 [S1 a]) fun d=>b1 (O 116 [S1 b]) fun c=>ifB d (ifB c (some (S1 (I6 0))) (some (S1 (I6 (-1))))) (ifB c (some (S1 (I6 1))) (za (zf .lss a b) fun e=>ifB e (some (S1 (I6 (-1)))) (za (zf .gtr a b) fun f=>ifB f (some (S1 (I6 1))) (some (S1 (I6 0))))))
theorem p84(O:Orc)(a0 a1:DV):pF O an0 84 [S1 a0,S1 a1]=P84 O a0 a1:=by kernel_rfl
def zBG(_O:Orc)(a:DV):Option DA:=za (zf .neq a a) fun b=>some (S1 b)
theorem zC8(O:Orc)(a0:DV):pF O an0 116 [S1 a0]=zBG O a0:=by kernel_rfl
def P63(_O:Orc)(a b c d:DV):Option DA:=za (zf .neq a c) fun e=>ifB e (za (zf .sub a c) fun f=>some (S1 f)) (za (zf .sub b d) fun g=>some (S1 g))
theorem p63(O:Orc)(a b c d:DV):pF O an0 63 [SA [a,b],SA [c,d]]=P63 O a b c d:=by kernel_rfl
def P88(_O:Orc)(a b c d:DV):Option DA:=za (zf .neq a c) fun e=>ifB e (za (zf .sub a c) fun f=>some (S1 f)) (za (zf .sub b d) fun g=>some (S1 g))
theorem p88(O:Orc)(a b c d:DV):pF O an0 88 [SA [a,b],SA [c,d]]=P88 O a b c d:=by kernel_rfl
def anT(g:Nat):Nat→Option LA:=match g with
 |83=>zCo
 |_=>an0
def zgB(g:Nat):Nat→List PA→Nat→Nat→Option LA:=match g with
 |_=>zzh
theorem d59{sums:List CE.Sum}{B:Orc}{k:Nat}(a b c d:DV)(hB:B 59 [SA [a,b],SA [c,d]]=none)(hs:sums.all (fun s=>!Nat.beq 59 s.g)=true):deep prog sums B anT uM zgB redI 1 (k+1) 59 [SA [a,b],SA [c,d]]=P59 (deep prog sums B anT uM zgB redI 1 k) a b c d:=(vF hB hs).trans (p59 _ _ _ _ _)
theorem d104{sums:List CE.Sum}{B:Orc}{k:Nat}(a b c d:DV)(hB:B 104 [SA [a,b],SA [c,d]]=none)(hs:sums.all (fun s=>!Nat.beq 104 s.g)=true):deep prog sums B anT uM zgB redI 1 (k+1) 104 [SA [a,b],SA [c,d]]=zBI (deep prog sums B anT uM zgB redI 1 k) a b c d:=(vF hB hs).trans (zDa _ _ _ _ _)
theorem d83{sums:List CE.Sum}{B:Orc}{k:Nat}(a0:DV)(hB:B 83 [S1 a0]=none)(hs:sums.all (fun s=>!Nat.beq 83 s.g)=true):deep prog sums B anT uM zgB redI 1 (k+1) 83 [S1 a0]=P83 (deep prog sums B anT uM zgB redI 1 k) a0:=(vF hB hs).trans (p83 _ _)
theorem d84{sums:List CE.Sum}{B:Orc}{k:Nat}(a0 a1:DV)(hB:B 84 [S1 a0,S1 a1]=none)(hs:sums.all (fun s=>!Nat.beq 84 s.g)=true):deep prog sums B anT uM zgB redI 1 (k+1) 84 [S1 a0,S1 a1]=P84 (deep prog sums B anT uM zgB redI 1 k) a0 a1:=(vF hB hs).trans (p84 _ _ _)
theorem d116{sums:List CE.Sum}{B:Orc}{k:Nat}(a0:DV)(hB:B 116 [S1 a0]=none)(hs:sums.all (fun s=>!Nat.beq 116 s.g)=true):deep prog sums B anT uM zgB redI 1 (k+1) 116 [S1 a0]=zBG (deep prog sums B anT uM zgB redI 1 k) a0:=(vF hB hs).trans (zC8 _ _)
theorem d63{sums:List CE.Sum}{B:Orc}{k:Nat}(a b c d:DV)(hB:B 63 [SA [a,b],SA [c,d]]=none)(hs:sums.all (fun s=>!Nat.beq 63 s.g)=true):deep prog sums B anT uM zgB redI 1 (k+1) 63 [SA [a,b],SA [c,d]]=P63 (deep prog sums B anT uM zgB redI 1 k) a b c d:=(vF hB hs).trans (p63 _ _ _ _ _)
theorem d88{sums:List CE.Sum}{B:Orc}{k:Nat}(a b c d:DV)(hB:B 88 [SA [a,b],SA [c,d]]=none)(hs:sums.all (fun s=>!Nat.beq 88 s.g)=true):deep prog sums B anT uM zgB redI 1 (k+1) 88 [SA [a,b],SA [c,d]]=P88 (deep prog sums B anT uM zgB redI 1 k) a b c d:=(vF hB hs).trans (p88 _ _ _ _ _)
end Go.Proofs.Tryz.Kc
end
section
namespace Go.Proofs.Tryz.Kn
open Go Go.CE Go.PE
theorem zxB{sums:List CE.Sum}:zth uM redI (fun n=>yk (ye prog) (cFs (xS prog)) sums redI.s n):=by intro N g g' l l' vs e;cases e
end Go.Proofs.Tryz.Kn
end
section
namespace Go.Proofs.Tryz.Kn
open Go Go.Shelf
def layR:Go.Shelf.Ren:=⟨fun|6=>58|15=>82|14=>81|28=>114|29=>115|20=>106|21=>107|22=>108|23=>109|24=>110|25=>111|26=>112|27=>113|46=>137|47=>138|48=>139|49=>140|50=>141|57=>165|n=>n,fun|22=>63|24=>108|25=>136|3=>3|39=>98|0=>0|53=>199|55=>37|4=>4|46=>192|45=>191|50=>196|5=>5|9=>9|66=>223|70=>227|76=>253|77=>254|n=>n,fun|n=>n⟩
theorem layS:SlLaysF0.n6 Tryz.prog layR where
 mixed:=by kernel_rfl
 f6:=⟨Tryz.f58.name,by kernel_rfl,Tryz.func58.trans (congrArg some (by kernel_rfl))⟩
 f14:=⟨Tryz.f81.name,by kernel_rfl,Tryz.func81.trans (congrArg some (by kernel_rfl))⟩
 f15:=Tryz.func82.trans (congrArg some (by kernel_rfl))
 f20:=⟨Tryz.f106.name,by kernel_rfl,Tryz.func106.trans (congrArg some (by kernel_rfl))⟩
 f21:=⟨Tryz.f107.name,by kernel_rfl,Tryz.func107.trans (congrArg some (by kernel_rfl))⟩
 f22:=⟨Tryz.f108.name,by kernel_rfl,Tryz.func108.trans (congrArg some (by kernel_rfl))⟩
 f23:=⟨Tryz.f109.name,by kernel_rfl,Tryz.func109.trans (congrArg some (by kernel_rfl))⟩
 f24:=⟨Tryz.f110.name,by kernel_rfl,Tryz.func110.trans (congrArg some (by kernel_rfl))⟩
 f25:=⟨Tryz.f111.name,by kernel_rfl,Tryz.func111.trans (congrArg some (by kernel_rfl))⟩
 f26:=⟨Tryz.f112.name,by kernel_rfl,Tryz.func112.trans (congrArg some (by kernel_rfl))⟩
 f27:=⟨Tryz.f113.name,by kernel_rfl,Tryz.func113.trans (congrArg some (by kernel_rfl))⟩
 f28:=Tryz.func114.trans (congrArg some (by kernel_rfl))
 f29:=Tryz.func115.trans (congrArg some (by kernel_rfl))
 f46:=⟨Tryz.f137.name,by kernel_rfl,Tryz.func137.trans (congrArg some (by kernel_rfl))⟩
 f47:=Tryz.func138.trans (congrArg some (by kernel_rfl))
 f48:=Tryz.func139.trans (congrArg some (by kernel_rfl))
 f49:=⟨Tryz.f140.name,by kernel_rfl,Tryz.func140.trans (congrArg some (by kernel_rfl))⟩
 f50:=⟨Tryz.f141.name,by kernel_rfl,Tryz.func141.trans (congrArg some (by kernel_rfl))⟩
 f57:=⟨Tryz.f165.name,by kernel_rfl,Tryz.func165.trans (congrArg some (by kernel_rfl))⟩
 t0:=Tryz.underlying0
 a0:=Tryz.isAgg0
 z0:=Tryz.sizeOf0
 v0:=Tryz.zeroValue0
 t3:=Tryz.underlying3
 a3:=Tryz.isAgg3
 z3:=Tryz.sizeOf3
 v3:=Tryz.zeroValue3
 t4:=Tryz.underlying4
 a4:=Tryz.isAgg4
 z4:=Tryz.sizeOf4
 v4:=Tryz.zeroValue4
 t5:=Tryz.underlying5
 a5:=Tryz.isAgg5
 z5:=Tryz.sizeOf5
 v5:=Tryz.zeroValue5
 t9:=Tryz.underlying9
 a9:=Tryz.isAgg9
 z9:=Tryz.sizeOf9
 v9:=Tryz.zeroValue9
 t22:=Tryz.underlying63
 a22:=Tryz.isAgg63
 z22:=Tryz.sizeOf63
 v22:=Tryz.zeroValue63
 t25:=Tryz.underlying136
 a25:=Tryz.isAgg136
 z25:=Tryz.sizeOf136
 v25:=Tryz.zeroValue136
 t39:=Tryz.underlying98
 a39:=Tryz.isAgg98
 z39:=Tryz.sizeOf98
 v39:=Tryz.zeroValue98
 t45:=Tryz.underlying191
 a45:=Tryz.isAgg191
 z45:=Tryz.sizeOf191
 v45:=Tryz.zeroValue191
 t46:=Tryz.underlying192
 a46:=Tryz.isAgg192
 z46:=Tryz.sizeOf192
 v46:=Tryz.zeroValue192
 t50:=Tryz.underlying196
 a50:=Tryz.isAgg196
 z50:=Tryz.sizeOf196
 v50:=Tryz.zeroValue196
 t53:=Tryz.underlying199
 a53:=Tryz.isAgg199
 z53:=Tryz.sizeOf199
 v53:=Tryz.zeroValue199
 t55:=Tryz.underlying37
 a55:=Tryz.isAgg37
 z55:=Tryz.sizeOf37
 v55:=Tryz.zeroValue37
 t66:=Tryz.underlying223
 a66:=Tryz.isAgg223
 z66:=Tryz.sizeOf223
 v66:=Tryz.zeroValue223
 t70:=Tryz.underlying227
 a70:=Tryz.isAgg227
 z70:=Tryz.sizeOf227
 v70:=Tryz.zeroValue227
 t76:=Tryz.underlying253
 a76:=Tryz.isAgg253
 z76:=Tryz.sizeOf253
 v76:=Tryz.zeroValue253
 t77:=Tryz.underlying254
 a77:=Tryz.isAgg254
 z77:=Tryz.sizeOf254
 v77:=Tryz.zeroValue254
end Go.Proofs.Tryz.Kn
end
section
namespace Go.Proofs.Tryz.Kn
open Go Go.Shelf
def layR2:Go.Shelf.Ren:=⟨fun|6=>87|15=>82|14=>119|28=>114|29=>115|20=>142|21=>143|22=>144|23=>145|24=>146|25=>147|26=>148|27=>149|46=>166|47=>138|48=>139|49=>167|50=>168|57=>178|n=>n,fun|22=>116|24=>45|25=>168|3=>3|39=>98|0=>0|53=>199|55=>37|4=>4|46=>192|45=>191|50=>196|5=>5|9=>9|66=>223|70=>227|76=>253|77=>254|n=>n,fun|n=>n⟩
theorem layS2:SlLaysF0.n6 Tryz.prog layR2 where
 mixed:=by kernel_rfl
 f6:=⟨Tryz.f87.name,by kernel_rfl,Tryz.func87.trans (congrArg some (by kernel_rfl))⟩
 f14:=⟨Tryz.f119.name,by kernel_rfl,Tryz.func119.trans (congrArg some (by kernel_rfl))⟩
 f15:=Tryz.func82.trans (congrArg some (by kernel_rfl))
 f20:=⟨Tryz.f142.name,by kernel_rfl,Tryz.func142.trans (congrArg some (by kernel_rfl))⟩
 f21:=⟨Tryz.f143.name,by kernel_rfl,Tryz.func143.trans (congrArg some (by kernel_rfl))⟩
 f22:=⟨Tryz.f144.name,by kernel_rfl,Tryz.func144.trans (congrArg some (by kernel_rfl))⟩
 f23:=⟨Tryz.f145.name,by kernel_rfl,Tryz.func145.trans (congrArg some (by kernel_rfl))⟩
 f24:=⟨Tryz.f146.name,by kernel_rfl,Tryz.func146.trans (congrArg some (by kernel_rfl))⟩
 f25:=⟨Tryz.f147.name,by kernel_rfl,Tryz.func147.trans (congrArg some (by kernel_rfl))⟩
 f26:=⟨Tryz.f148.name,by kernel_rfl,Tryz.func148.trans (congrArg some (by kernel_rfl))⟩
 f27:=⟨Tryz.f149.name,by kernel_rfl,Tryz.func149.trans (congrArg some (by kernel_rfl))⟩
 f28:=Tryz.func114.trans (congrArg some (by kernel_rfl))
 f29:=Tryz.func115.trans (congrArg some (by kernel_rfl))
 f46:=⟨Tryz.f166.name,by kernel_rfl,Tryz.func166.trans (congrArg some (by kernel_rfl))⟩
 f47:=Tryz.func138.trans (congrArg some (by kernel_rfl))
 f48:=Tryz.func139.trans (congrArg some (by kernel_rfl))
 f49:=⟨Tryz.f167.name,by kernel_rfl,Tryz.func167.trans (congrArg some (by kernel_rfl))⟩
 f50:=⟨Tryz.f168.name,by kernel_rfl,Tryz.func168.trans (congrArg some (by kernel_rfl))⟩
 f57:=⟨Tryz.f178.name,by kernel_rfl,Tryz.func178.trans (congrArg some (by kernel_rfl))⟩
 t0:=Tryz.underlying0
 a0:=Tryz.isAgg0
 z0:=Tryz.sizeOf0
 v0:=Tryz.zeroValue0
 t3:=Tryz.underlying3
 a3:=Tryz.isAgg3
 z3:=Tryz.sizeOf3
 v3:=Tryz.zeroValue3
 t4:=Tryz.underlying4
 a4:=Tryz.isAgg4
 z4:=Tryz.sizeOf4
 v4:=Tryz.zeroValue4
 t5:=Tryz.underlying5
 a5:=Tryz.isAgg5
 z5:=Tryz.sizeOf5
 v5:=Tryz.zeroValue5
 t9:=Tryz.underlying9
 a9:=Tryz.isAgg9
 z9:=Tryz.sizeOf9
 v9:=Tryz.zeroValue9
 t22:=Tryz.underlying116
 a22:=Tryz.isAgg116
 z22:=Tryz.sizeOf116
 v22:=Tryz.zeroValue116
 t25:=Tryz.underlying168
 a25:=Tryz.isAgg168
 z25:=Tryz.sizeOf168
 v25:=Tryz.zeroValue168
 t39:=Tryz.underlying98
 a39:=Tryz.isAgg98
 z39:=Tryz.sizeOf98
 v39:=Tryz.zeroValue98
 t45:=Tryz.underlying191
 a45:=Tryz.isAgg191
 z45:=Tryz.sizeOf191
 v45:=Tryz.zeroValue191
 t46:=Tryz.underlying192
 a46:=Tryz.isAgg192
 z46:=Tryz.sizeOf192
 v46:=Tryz.zeroValue192
 t50:=Tryz.underlying196
 a50:=Tryz.isAgg196
 z50:=Tryz.sizeOf196
 v50:=Tryz.zeroValue196
 t53:=Tryz.underlying199
 a53:=Tryz.isAgg199
 z53:=Tryz.sizeOf199
 v53:=Tryz.zeroValue199
 t55:=Tryz.underlying37
 a55:=Tryz.isAgg37
 z55:=Tryz.sizeOf37
 v55:=Tryz.zeroValue37
 t66:=Tryz.underlying223
 a66:=Tryz.isAgg223
 z66:=Tryz.sizeOf223
 v66:=Tryz.zeroValue223
 t70:=Tryz.underlying227
 a70:=Tryz.isAgg227
 z70:=Tryz.sizeOf227
 v70:=Tryz.zeroValue227
 t76:=Tryz.underlying253
 a76:=Tryz.isAgg253
 z76:=Tryz.sizeOf253
 v76:=Tryz.zeroValue253
 t77:=Tryz.underlying254
 a77:=Tryz.isAgg254
 z77:=Tryz.sizeOf254
 v77:=Tryz.zeroValue254
end Go.Proofs.Tryz.Kn
end
noncomputable section
namespace Go.Proofs.Tryz.Kc
open Go Go.CE Go.PE
def D0(k:Nat):Orc:=deep prog [] (fun _ _=>none) anT uM zgB redI 1 k
theorem zBR(k:Nat):jN (D0 k) (fun n=>yk (ye prog) (cFs (xS prog)) [] redI.s n):=zgh zr9 (fun g hg=>by cases hg) (fun g hg=>by cases hg) (fun g args res e=>by cases e) k
theorem zBT(k:Nat)(a:Int):D0 (k+1) 116 [S1 (I6 a)]=some (S1 (Bo false)):=by refine (d116 _ rfl rfl).trans ?_;unfold zBG;simp only[yg,zb,YzD,Yzw]
def zrf(a b:Int):Int:=if a<b then -1 else if b<a then 1 else 0
theorem u84(k:Nat)(a b:Int):D0 (k+2) 84 [S1 (I6 a),S1 (I6 b)]=some (S1 (I6 (zrf a b))):=by
 refine (d84 _ _ rfl rfl).trans ?_;have h1:=zBT k a;have h2:=zBT k b;unfold D0 at h1 h2;unfold P84 zrf;simp only[h1,h2,zR,zg,Yzc,if_false,zc,zb,yP,Yzn];by_cases q:a<b
 ·rw[Yze q,Yze q]
 ·rw[Yzb q,Yzb q];by_cases q2:b<a
  ·rw[Yze q2,Yze q2]
  ·rw[Yzb q2,Yzb q2]
theorem u83(k:Nat)(p q:Int):D0 (k+1) 83 [S1 (.lst 1 [[I6 p],[I6 q]])]=some (S1 (I6 (if p=0 then q else p))):=by
 refine (d83 _ rfl rfl).trans ?_;unfold P83;have i0:yy 1 (.lst 1 [[I6 p],[I6 q]]) (I6 0)=some [I6 p]:=rfl;have i1:yy 1 (.lst 1 [[I6 p],[I6 q]]) (I6 1)=some [I6 q]:=rfl;have l0:yV (.lst 1 [[I6 p],[I6 q]])=some (I6 2):=rfl;have a0:zf .add (I6 0) (I6 1)=some (I6 1):=rfl;have a1:zf .add (I6 1) (I6 1)=some (I6 2):=rfl;have b0:zjX (I6 2) (.lst 1 [[I6 p],[I6 q]]) [I6 0] []=some (if p=0 then(.normal,[I6 1],[]) else(.ret,[I6 p],[])):=by simp only[zjX,zi,zc,zb,zg,i0,yE,yg,a0];by_cases h:p=0<;>simp[h]
 have b1':zjX (I6 2) (.lst 1 [[I6 p],[I6 q]]) [I6 1] []=some (if q=0 then(.normal,[I6 2],[]) else(.ret,[I6 q],[])):=by simp only[zjX,zi,zc,zb,zg,i1,yE,yg,a1];by_cases h:q=0<;>simp[h]
 have b2:zjX (I6 2) (.lst 1 [[I6 p],[I6 q]]) [I6 2] []=some (.exit 0,[],[]):=by simp only[zjX,zi,zc,zb,zg];rfl
 simp only[l0,zb];by_cases h:p=0
 ·rw[Yze h]at b0 ⊢;rw[zx b0];by_cases h2:q=0
  ·rw[Yze h2]at b1';rw[zx b1',zl b2,h2];rfl
  ·rw[Yzb h2]at b1';rw[zG b1'];rfl
 ·rw[Yzb h]at b0 ⊢;rw[zG b0];rfl
theorem zp8(a b c d:Int):(if zrf a c=0 then zrf b d else zrf a c)=ztZ [a,b] [c,d]:=by
 unfold zrf ztZ;simp only[ltZ];by_cases h1:a<c
 ·simp[h1]
 ·by_cases h2:c<a
  ·simp[h1,h2]
  ·by_cases h3:b<d
   ·simp[h1,h2,h3]
   ·by_cases h4:d<b<;>simp[h1,h2,h3,h4]
theorem u59(k:Nat)(a b c d:Int):D0 (k+3) 59 [SA [I6 a,I6 b],SA [I6 c,I6 d]]=some (S1 (I6 (ztZ [a,b] [c,d]))):=by refine (d59 _ _ _ _ rfl rfl).trans ?_;have h1:=u84 k a c;have h2:=u84 k b d;have h3:=u83 (k+1) (zrf a c) (zrf b d);unfold D0 at h1 h2 h3;unfold P59;simp only[h1,h2,zR,h3,zgx,zp8]
theorem zCT(k:Nat)(a b c d:Int):D0 (k+3) 104 [SA [I6 a,I6 b],SA [I6 c,I6 d]]=some (S1 (I6 (ztZ [a,b] [c,d]))):=by refine (d104 _ _ _ _ rfl rfl).trans ?_;have h1:=u84 k a c;have h2:=u84 k b d;have h3:=u83 (k+1) (zrf a c) (zrf b d);unfold D0 at h1 h2 h3;unfold zBI;simp only[h1,h2,zR,h3,zgx,zp8]
theorem zqa(k:Nat):Cmp k ztZ:=fun x y _ _=>by
 unfold ztZ;cases h1:ltZ x y with
 |true=>simp
 |false=>cases h2:ltZ y x<;>simp
theorem zs6{fz:BN→Prop}{h:Za}{v:Zb}{a:Int}(hv:RepA fz h v (S1 (I6 a))):v=.s (.one (.int .i64 a)):=by
 obtain⟨v',hv',h1⟩:=RepA.inv hv;subst hv';cases v' with
 |agg l=>exact h1.elim
 |one c=>rw[Rep.scal h1 rfl]
theorem zlq{f:Nat}{a b c d r:Int}(e:D0 3 f [SA [I6 a,I6 b],SA [I6 c,I6 d]]=some (S1 (I6 r))):∃call h2,y4 prog call∧call (.inl f) [.s (.agg ([a,b].map (Zc.int .i64))),.s (.agg ([c,d].map (Zc.int .i64)))] ⟨.z,.nil⟩=some (.s (.one (.int .i64 r)),h2):=by
 have hnil:∀b,(Tr.nil:Tr Zg).get b=none:=by intro b;cases b<;>rfl
 obtain⟨⟨v,h2⟩,⟨_,_,hv⟩,N,hN⟩:=zBR 3 f _ _ e (fun _=>False) ⟨.z,.nil⟩ [.s (.agg ([a,b].map (Zc.int .i64))),.s (.agg ([c,d].map (Zc.int .i64)))] (fun b o hb=>by rw[hnil]at hb;cases hb) (fun b hb=>hb.elim) ⟨zcg _ _ [a,b],zcg _ _ [c,d],trivial⟩;refine⟨_,h2,zgq (sums:=[]) (zfp prog) (fun s hs=>by cases hs) (zr8 (P:=prog)) N,?_⟩;refine (hN N (LzB _)).trans ?_;have hv:RepA _ _ v _:=hv;rw[zs6 hv]
def ztY:List Int→List Int→Int
 | [a,b],[c,d]=>if a=c then b-d else a-c
 |_,_=>0
theorem zra{x:List Int}(h:zhV 2 x):∃a b,x=[a,b]∧-2305843009213693952≤a∧a≤2305843009213693952∧-2305843009213693952≤b∧b≤2305843009213693952:=by
 match x,h.1 with
 | [a,b],_=>have:=h.2;unfold inZ at this;simp only[List.all_cons,List.all_nil,Yyi,LzC,Yzn]at this;exact⟨a,b,rfl,this.1.1,this.1.2,this.2.1,this.2.2⟩
theorem zp6:Cmp 2 ztY:=fun x y hx hy=>by
 obtain⟨a,b,rfl,_⟩:=zra hx;obtain⟨c,d,rfl,_⟩:=zra hy;unfold ztY;simp only[ltZ];by_cases h:a=c
 ·subst h;simp only[if_true];by_cases h2:b<d
  ·simp[h2];omega
  ·simp[h2];omega
 ·rw[Yzb h];by_cases h2:a<c
  ·simp[h2];omega
  ·have:c<a:=by omega
   simp[h2,this];omega
theorem u63(k:Nat)(a b c d:Int)(h:-2305843009213693952≤a∧a≤2305843009213693952∧-2305843009213693952≤b∧b≤2305843009213693952∧-2305843009213693952≤c∧c≤2305843009213693952∧-2305843009213693952≤d∧d≤2305843009213693952):D0 (k+1) 63 [SA [I6 a,I6 b],SA [I6 c,I6 d]]=some (S1 (I6 (ztY [a,b] [c,d]))):=by refine (d63 _ _ _ _ rfl rfl).trans ?_;have e1:zf .sub (I6 a) (I6 c)=some (I6 (a-c)):=zbW;have e2:zf .sub (I6 b) (I6 d)=some (I6 (b-d)):=zbW;unfold P63 ztY;simp only[yg,zb,zg,e1,e2];by_cases h:a=c<;>simp[h]
theorem u88(k:Nat)(a b c d:Int)(h:-2305843009213693952≤a∧a≤2305843009213693952∧-2305843009213693952≤b∧b≤2305843009213693952∧-2305843009213693952≤c∧c≤2305843009213693952∧-2305843009213693952≤d∧d≤2305843009213693952):D0 (k+1) 88 [SA [I6 a,I6 b],SA [I6 c,I6 d]]=some (S1 (I6 (ztY [a,b] [c,d]))):=by refine (d88 _ _ _ _ rfl rfl).trans ?_;have e1:zf .sub (I6 a) (I6 c)=some (I6 (a-c)):=zbW;have e2:zf .sub (I6 b) (I6 d)=some (I6 (b-d)):=zbW;unfold P88 ztY;simp only[yg,zb,zg,e1,e2];by_cases h:a=c<;>simp[h]
theorem zs4(f:Nat)(hf:f∈[59,104,63]):∃cf,Cmp 2 cf∧∀x y:List Int,zhV 2 x→zhV 2 y→∃call h2,y4 prog call∧call (.inl f) [.s (.agg (x.map (Zc.int .i64))),.s (.agg (y.map (Zc.int .i64)))] ⟨.z,.nil⟩=some (.s (.one (.int .i64 (cf x y))),h2):=by
 simp only[YzA,Yzs,or_false]at hf;rcases hf with rfl|rfl|rfl
 ·refine⟨ztZ,zqa 2,fun x y hx hy=>?_⟩;obtain⟨a,b,rfl,_⟩:=zra hx;obtain⟨c,d,rfl,_⟩:=zra hy;exact zlq (u59 0 a b c d)
 ·refine⟨ztZ,zqa 2,fun x y hx hy=>?_⟩;obtain⟨a,b,rfl,_⟩:=zra hx;obtain⟨c,d,rfl,_⟩:=zra hy;exact zlq (zCT 0 a b c d)
 ·refine⟨ztY,zp6,fun x y hx hy=>?_⟩;obtain⟨a,b,rfl,h1⟩:=zra hx;obtain⟨c,d,rfl,h2⟩:=zra hy;exact zlq (u63 2 a b c d (by omega))
theorem zp9(f:Nat)(hf:f∈[88]):∃cf,Cmp 2 cf∧∀x y:List Int,zhV 2 x→zhV 2 y→∃call h2,y4 prog call∧call (.inl f) [.s (.agg (x.map (Zc.int .i64))),.s (.agg (y.map (Zc.int .i64)))] ⟨.z,.nil⟩=some (.s (.one (.int .i64 (cf x y))),h2):=by simp only[YzA,Yzs,or_false]at hf;subst hf;refine⟨ztY,zp6,fun x y hx hy=>?_⟩;obtain⟨a,b,rfl,h1⟩:=zra hx;obtain⟨c,d,rfl,h2⟩:=zra hy;exact zlq (u88 2 a b c d (by omega))
def zvX:Res→Bool
 |some (.tup [],_)=>true
 |_=>false
theorem zpz{r:Res}(h:zvX r=true):∃h2,r=some (.tup [],h2):=by
 unfold zvX at h;split at h
 ·exact⟨_,rfl⟩
 ·cases h
def zDh(g f:Nat):Res:=zjs (ye prog) (cFs (xS prog)) [] 100000 (.inl g) [.s (.one .nils),.s (.one (.fn f []))] ⟨.z,.nil⟩
theorem zkK{g f:Nat}(h:zvX (zDh g f)=true):∃call h2,y4 prog call∧call (.inl g) [.s (.one .nils),.s (.one (.fn f []))] ⟨.z,.nil⟩=some (.tup [],h2):=by obtain⟨h2,e⟩:=zpz h;exact⟨_,h2,zgr (sums:=[]) (zfp prog) (fun s hs=>by cases hs) 100000,e⟩
theorem zsa(f:Nat)(hf:f∈[59,104,63]):∃call h2,y4 prog call∧call (.inl 58) [.s (.one .nils),.s (.one (.fn f []))] ⟨.z,.nil⟩=some (.tup [],h2):=by
 simp only[YzA,Yzs,or_false]at hf;rcases hf with rfl|rfl|rfl
 ·exact zkK (by kernel_rfl)
 ·exact zkK (by kernel_rfl)
 ·exact zkK (by kernel_rfl)
theorem zoU(f:Nat)(hf:f∈[88]):∃call h2,y4 prog call∧call (.inl 87) [.s (.one .nils),.s (.one (.fn f []))] ⟨.z,.nil⟩=some (.tup [],h2):=by simp only[YzA,Yzs,or_false]at hf;subst hf;exact zkK (by kernel_rfl)
def zBW:Srt:=⟨[59,104,63],2⟩
def zBX:Srt:=⟨[88],2⟩
theorem srtP_ok:zhU prog 58 zBW:=ztr (ρ:=Kn.layR) (t:=zBW) Kn.layS (fun w=>by kernel_rfl) (fun w=>by kernel_rfl) zs4 zsa
theorem srtC_ok:zhU prog 87 zBX:=ztr (ρ:=Kn.layR2) (t:=zBX) Kn.layS2 (fun w=>by kernel_rfl) (fun w=>by kernel_rfl) zp9 zoU
end Go.Proofs.Tryz.Kc
end
noncomputable section
namespace Go.Proofs.Tryz.Kn
open Go Go.CE Go.PE
def zvV:List CE.Sum:=[kSum29]
theorem zsH:∀s∈zvV,jM Tryz.prog s:=by
 intro s hs;simp only[zvV,YzA,Yzs,or_false]at hs;rcases hs with rfl
 ·exact zpw
def bSums:List CE.Sum:=zvV++shSums
theorem ztb:∀s∈bSums,jM Tryz.prog s:=zs5 zsH znR
def bIds:List Nat:=[7,91,92,93,94]
theorem zqw:bSums.all (fun s=>bIds.any (Nat.beq s.g))=true:=by kernel_rfl
theorem zdE{g:Nat}(h:bIds.any (Nat.beq g)=false):∀s∈bSums,Nat.beq g s.g=false:=by
 intro s hs;have h1:=Yz3.1 zqw s hs;cases hb:Nat.beq g s.g with
 |false=>rfl
 |true=>rw[←Lz1 hb,h]at h1;cases h1
theorem znd{g:Nat}(h:bIds.any (Nat.beq g)=false):bSums.all (fun s=>!Nat.beq g s.g)=true:=
 Yz3.2 fun s hs=>by rw[zdE h s hs];rfl
def B:Orc:=zw7 bIds bSums
theorem zzx{g:Nat}(h:bIds.any (Nat.beq g)=false)(args:List DA):B g args=none:=by unfold B zw7;rw[h];rfl
def D(k:Nat):Orc:=deep prog bSums B anT uM zgB redI 4 k
theorem dF{k g:Nat}{args:List DA}{x:Option DA}(h:bIds.any (Nat.beq g)=false)(hr:(redI.s g).isNone=true)(e:zkx prog (D k) uM (inl prog (D k) uM (zgB g) redI 4) (anT g) g args=x):D (k+1) g args=x:=(vF (zzx h _) (znd h) hr).trans e
theorem zrz:∀g,uM g=true→∀s∈bSums,Nat.beq g s.g=false:=by
 intro g hg;refine zdE ?_;unfold uM at hg;split at hg
 ·rfl
 ·rfl
 ·rfl
 ·rfl
 ·rfl
 ·rfl
 ·rfl
 ·rfl
 ·rfl
 ·rfl
 ·rfl
 ·rfl
 ·cases hg
theorem zuu:∀g,uM g=true→Nat.ble zqt g=false:=by
 intro g hg;unfold uM at hg;split at hg
 ·rfl
 ·rfl
 ·rfl
 ·rfl
 ·rfl
 ·rfl
 ·rfl
 ·rfl
 ·rfl
 ·rfl
 ·rfl
 ·rfl
 ·cases hg
theorem zD6(k:Nat):jN (D k) (fun n=>yk (ye prog) (cFs (xS prog)) bSums redI.s n):=zgh zxB zrz zuu (zuy (by kernel_rfl)) k
theorem zuA:∀g t,redI.s g=some t→zhU prog g t:=by
 intro g t e;unfold redI at e;simp only at e;split at e
 ·cases e;exact Kc.srtP_ok
 ·cases e;exact Kc.srtC_ok
 ·cases e
theorem D7(k:Nat):D k 7 []=some (S1 (.bool true)):=zhB (by kernel_rfl)
theorem D8(k:Nat)(a b c:DV):D (k+1) 8 [SA [a,b,c]]=P8 (D k) a b c:=dF rfl rfl (p8 ..)
theorem D9(k:Nat)(a b c:DV):D (k+1) 9 [SA [a,b,c]]=P9 (D k) a b c:=dF rfl rfl (p9 ..)
theorem D10(k:Nat)(a b c d f h j m r:DV):D (k+1) 10 [SA [a,b,c,d],SA [f,h,j,m,r]]=P10 (D k) a b c d f h j m r:=dF rfl rfl (p10 ..)
theorem D54(k:Nat)(a b c d:DV):D (k+1) 54 [SA [a,b,c,d]]=P54 (D k) a b c d:=dF rfl rfl (p54 ..)
theorem D55(k:Nat)(a b c d f h j:DV):D (k+1) 55 [SA [a,b,c,d],SA [f,h,j]]=P55 (D k) a b c d f h j:=dF rfl rfl (p55 ..)
theorem D26(k:Nat)(a b c d f h j m r a1:DV):D (k+1) 26 [SA [a,b,c,d,f,h,j,m,r],S1 a1]=P26 (D k) a b c d f h j m r a1:=dF rfl rfl (p26 ..)
theorem D27(k:Nat)(a0 a b c d f h a3:DV):D (k+1) 27 [S1 a0,SA [a,b],SA [c,d,f,h],S1 a3]=P27 (D k) a0 a b c d f h a3:=dF rfl rfl (p27 ..)
theorem D71(k:Nat)(a0:DV):D (k+1) 71 [S1 a0]=P71 (D k) a0:=dF rfl rfl (p71 ..)
theorem D72(k:Nat)(a b c d f h:DV):D (k+1) 72 [SA [a,b,c,d,f,h]]=P72 (D k) a b c d f h:=dF rfl rfl (p72 ..)
theorem D74(k:Nat)(a b c d f h j m r:DV):D (k+1) 74 [SA [a,b,c,d],SA [f,h,j,m,r]]=P74 (D k) a b c d f h j m r:=dF rfl rfl (p74 ..)
theorem D75(k:Nat)(a0 a1:DV):D (k+1) 75 [S1 a0,S1 a1]=P75 (D k) a0 a1:=dF rfl rfl (p75 ..)
theorem D51(k:Nat)(a0:DV):D (k+1) 51 [S1 a0]=P51 (D k) a0:=dF rfl rfl (p51 ..)
theorem D52(k:Nat)(a0:DV):D (k+1) 52 [S1 a0]=P52 (D k) a0:=dF rfl rfl (p52 ..)
theorem D53(k:Nat)(a b c d:DV):D (k+1) 53 [SA [a,b],SA [c,d]]=P53 (D k) a b c d:=dF rfl rfl (p53 ..)
theorem D95(k:Nat)(a0:DV):D (k+1) 95 [S1 a0]=P95 (D k) a0:=dF rfl rfl (p95 ..)
theorem D90(k:Nat)(a b:DV):D (k+1) 90 [SA [a,b]]=P90 (D k) a b:=dF rfl rfl (p90 ..)
theorem D96(k:Nat)(a0:DV):D (k+1) 96 [S1 a0]=P96 (D k) a0:=dF rfl rfl (p96 ..)
theorem D97(k:Nat)(a0:DV):D (k+1) 97 [S1 a0]=P97 (D k) a0:=dF rfl rfl (p97 ..)
theorem D98(k:Nat)(a b:DV):D (k+1) 98 [SA [a,b]]=P98 (D k) a b:=dF rfl rfl (p98 ..)
theorem D99(k:Nat)(a b c d f h j:DV):D (k+1) 99 [SA [a,b,c],SA [d,f,h,j]]=P99 (D k) a b c d f h j:=dF rfl rfl (p99 ..)
theorem zEn(k:Nat)(a0 a1:DV):D (k+1) 100 [S1 a0,S1 a1]=zBL (D k) a0 a1:=dF rfl rfl (zDe ..)
theorem zEm(k:Nat)(a b c d f h j m r s:DV):D (k+1) 101 [SA [a,b,c,d,f],S1 (.fp [h,j,m,r,s] 0)]=zCR (D k) a b c d f h j m r s:=dF rfl rfl (zDd ..)
theorem D69(k:Nat)(a b c d:DV):D (k+1) 69 [SA [a,b],SA [c,d]]=P69 (D k) a b c d:=dF rfl rfl (p69 ..)
theorem D70(k:Nat)(a b c d:DV):D (k+1) 70 [SA [a,b],SA [c,d]]=P70 (D k) a b c d:=dF rfl rfl (p70 ..)
theorem zEh(k:Nat)(a b:DV):D (k+1) 122 [SA [a,b]]=zBE (D k) a b:=dF rfl rfl (zC6 ..)
theorem zEg(k:Nat)(a0 a1:DV):D (k+1) 132 [S1 a0,S1 a1]=zBD (D k) a0 a1:=dF rfl rfl (zC5 ..)
theorem zEf(k:Nat)(a0:DV):D (k+1) 133 [S1 a0]=zBC (D k) a0:=dF rfl rfl (zC4 ..)
theorem zEe(k:Nat)(a b c:DV):D (k+1) 134 [SA [a,b,c]]=zBB (D k) a b c:=dF rfl rfl (zC3 ..)
theorem zEd(k:Nat)(a b c a1:DV):D (k+1) 135 [SA [a,b,c],S1 a1]=zBA (D k) a b c a1:=dF rfl rfl (zC2 ..)
theorem zEc(k:Nat)(a0 a1:DV):D (k+1) 136 [S1 a0,S1 a1]=zBz (D k) a0 a1:=dF rfl rfl (zC1 ..)
theorem zEb(k:Nat)(a0 a1:DV):D (k+1) 150 [S1 a0,S1 a1]=zBy (D k) a0 a1:=dF rfl rfl (zC0 ..)
theorem zEa(k:Nat)(a0:DV):D (k+1) 151 [S1 a0]=zBx (D k) a0:=dF rfl rfl (zCZ ..)
theorem zD9(k:Nat)(a0 a1:DV):D (k+1) 163 [S1 a0,S1 a1]=zBw (D k) a0 a1:=dF rfl rfl (zCY ..)
theorem zD8(k:Nat)(a0 a b:DV):D (k+1) 164 [S1 a0,SA [a,b]]=zBv (D k) a0 a b:=dF rfl rfl (zCX ..)
theorem zD7(k:Nat)(a0 a b:DV):D (k+1) 177 [S1 a0,SA [a,b]]=zBu (D k) a0 a b:=dF rfl rfl (zCW ..)
theorem D12(k:Nat)(a b c d f h j m r s:DV):D (k+1) 12 [SA [a,b,c,d],SA [f,h,j],SA [m,r,s]]=P12 (D k) a b c d f h j m r s:=dF rfl rfl (p12 ..)
theorem D28(k:Nat)(a b c d a1:DV):D (k+1) 28 [SA [a,b,c,d],S1 a1]=P28 (D k) a b c d a1:=dF rfl rfl (p28 ..)
theorem D36(k:Nat)(a b c d a1 a2 a3:DV):D (k+1) 36 [SA [a,b,c,d],S1 a1,S1 a2,S1 a3]=P36 (D k) a b c d a1 a2 a3:=dF rfl rfl (p36 ..)
theorem D37(k:Nat)(a0 a1:DV):D (k+1) 37 [S1 a0,S1 a1]=P37 (D k) a0 a1:=dF rfl rfl (p37 ..)
theorem D56(k:Nat)(a0 a b c d a2:DV):D (k+1) 56 [S1 a0,SA [a,b,c,d],S1 a2]=P56 (D k) a0 a b c d a2:=dF rfl rfl (p56 ..)
theorem D57(k:Nat)(a b c d f h j m r:DV):D (k+1) 57 [SA [a,b,c,d],SA [f,h,j],SA [m,r]]=P57 (D k) a b c d f h j m r:=dF rfl rfl (p57 ..)
theorem D66(k:Nat)(a0 a b:DV):D (k+1) 66 [S1 a0,SA [a,b]]=P66 (D k) a0 a b:=dF rfl rfl (p66 ..)
theorem D76(k:Nat)(a b c d a1:DV):D (k+1) 76 [SA [a,b,c,d],S1 a1]=P76 (D k) a b c d a1:=dF rfl rfl (p76 ..)
theorem D77(k:Nat)(a0 a b a2:DV):D (k+1) 77 [S1 a0,SA [a,b],S1 a2]=P77 (D k) a0 a b a2:=dF rfl rfl (p77 ..)
theorem D80(k:Nat)(a0 a b:DV):D (k+1) 80 [S1 a0,SA [a,b]]=P80 (D k) a0 a b:=dF rfl rfl (p80 ..)
theorem zEl(k:Nat)(a0 a1:DV):D (k+1) 102 [S1 a0,S1 a1]=zBK (D k) a0 a1:=dF rfl rfl (zDc ..)
theorem zEk(k:Nat)(a b c d:DV):D (k+1) 103 [SA [a,b,c],S1 (.fp [d] 0)]=zBJ (D k) a b c d:=dF rfl rfl (zDb ..)
theorem zEj(k:Nat)(a0 a b:DV):D (k+1) 105 [S1 a0,SA [a,b]]=zBH (D k) a0 a b:=dF rfl rfl (zC9 ..)
theorem D29(k:Nat)(a b c d f h j:DV):D (k+1) 29 [SA [a,b,c,d],SA [f,h,j]]=P29 (D k) a b c d f h j:=dF rfl rfl (p29 ..)
theorem D3(k:Nat)(a b c d f h j m:DV):D (k+1) 3 [SA [a,b,c],SA [d,f,h,j,m]]=P3 (D k) a b c d f h j m:=dF rfl rfl (p3 ..)
theorem D11(k:Nat)(a b c d f h j:DV):D (k+1) 11 [SA [a,b,c,d],SA [f,h,j]]=P11 (D k) a b c d f h j:=dF rfl rfl (p11 ..)
theorem D13(k:Nat)(a b c d f h j:DV):D (k+1) 13 [SA [a,b,c,d],SA [f,h,j]]=P13 (D k) a b c d f h j:=dF rfl rfl (p13 ..)
theorem D14(k:Nat)(a b c d f h:DV):D (k+1) 14 [SA [a,b,c],SA [d,f,h]]=P14 (D k) a b c d f h:=dF rfl rfl (p14 ..)
theorem D25(k:Nat)(a0 a1:DV):D (k+1) 25 [S1 a0,S1 a1]=P25 (D k) a0 a1:=dF rfl rfl (p25 ..)
theorem D31(k:Nat)(a b c d f h j:DV):D (k+1) 31 [SA [a,b,c,d],SA [f,h,j]]=P31 (D k) a b c d f h j:=dF rfl rfl (p31 ..)
theorem D32(k:Nat)(a0 a1:DV):D (k+1) 32 [S1 a0,S1 a1]=P32 (D k) a0 a1:=dF rfl rfl (p32 ..)
theorem D33(k:Nat)(a b c d f h j m r s w:DV):D (k+1) 33 [SA [a,b,c],S1 (.fp [d,f,h,j] 0),S1 (.fp [m] 0),S1 (.fp [r,s,w] 0)]=P33 (D k) a b c d f h j m r s w:=dF rfl rfl (p33 ..)
theorem D34(k:Nat)(a b c d a1 a2:DV):D (k+1) 34 [SA [a,b,c,d],S1 a1,S1 a2]=P34 (D k) a b c d a1 a2:=dF rfl rfl (p34 ..)
theorem D35(k:Nat)(a b c d f h:DV):D (k+1) 35 [SA [a,b,c],SA [d,f,h]]=P35 (D k) a b c d f h:=dF rfl rfl (p35 ..)
end Go.Proofs.Tryz.Kn
end
section
namespace Go.Proofs.Tryz.Kn
open Go Go.CE Go.PE
theorem zlz:∀(l:List UInt8) (i:Nat),zjP l i=(l[i]?).map fun c=>U8 (c.toNat:Int)
 | [],i=>by simp[zjP]
 |c::l,0=>rfl
 |c::l,i+1=>by show zjP l i=_;rw[zlz l i];simp
theorem zg4(s:ByteArray)(k:IntKind)(i:Nat):zbC (.str s) (.int k (i:Int))=(s.data.toList[i]?).map fun c=>U8 (c.toNat:Int):=zlz _ _
theorem zfd(s:ByteArray):s.size=s.data.toList.length:=(Array.length_toList (xs:=s.data)).symm
theorem zrT(a b:ByteArray):zos .eql (.str a) (.str b)=some (.bool (a.data.toList==b.data.toList)):=rfl
def za9(n:Int):Bool:=(decide (65≤n)&&decide (n≤90))||(decide (97≤n)&&decide (n≤122))
theorem t95(k:Nat)(n:Int):D (k+1) 95 [S1 (U8 n)]=some (S1 (Bo (za9 n))):=by rw[D95];unfold P95 za9;by_cases h1:65≤n<;>by_cases h2:n≤90<;>by_cases h3:97≤n<;>by_cases h4:n≤122<;>simp[h1,h2,h3,h4]
def zm9(n:Int):Bool:=za9 n||(decide (48≤n)&&decide (n≤57))||decide (n=95)
def isName(s:ByteArray):Bool:=
 match s.data.toList with
 | []=>false
 |c::l=>decide (l.length≤31)&&za9 (c.toNat:Int)&&l.all fun c=>zm9 (c.toNat:Int)
theorem l71(k:Nat)(s:ByteArray)(hs:s.data.toList.length≤1000):∀(r:List UInt8) (i:Nat),s.data.toList.drop i=r→
  zB (zqO (D (k+1)) (.str s)) [I6 (i:Int)] []=some (if r.all (fun c=>zm9 (c.toNat:Int)) then(.exit 0,[],[]) else(.ret,[Bo false],[])):=by
 intro r
 induction r with
 |nil=>intro i h;refine zl ?_;have:=zH h;simp only[zqO,zi,zcL,zb,zc,zfd,yK this,zg];rfl
 |cons c r ih=>
  intro i h;have h1:=zZ h;have h2:(i:Int)<(s.data.toList.length:Int):=by omega
  have ea:zf .add (I6 (i:Int)) (I6 1)=some (I6 ((i+1:Nat):Int)):=yf;have ix:zbC (.str s) (I6 (i:Int))=some (U8 (c.toNat:Int)):=by rw[zg4,zJ h];rfl
  have body:zqO (D (k+1)) (.str s) [I6 (i:Int)] []=some (if zm9 (c.toNat:Int) then(.normal,[I6 ((i+1:Nat):Int)],[]) else(.ret,[Bo false],[])):=by
   simp only[zqO,zi,zcL,zb,zc,zg,zfd,x4 h1,if_true,ix,t95,zR,yI,ea,yg,yP];unfold zm9;cases za9 (c.toNat:Int) with
   |true=>simp
   |false=>
    by_cases h3:(c.toNat:Int)<48
    ·by_cases h4:(c.toNat:Int)=95
     ·omega
     ·have:¬(48≤(c.toNat:Int)):=by omega
      simp[h3,h4,this]
    ·by_cases h5:57<(c.toNat:Int)
     ·have h6:¬((c.toNat:Int)≤57):=by omega
      by_cases h4:(c.toNat:Int)=95<;>simp[h3,h4,h5,h6]
     ·have h6:(c.toNat:Int)≤57:=by omega
      have h7:48≤(c.toNat:Int):=by omega
      simp[h3,h5,h6,h7]
  cases hc:zm9 (c.toNat:Int) with
  |true=>rw[hc]at body;rw[zx body,ih (i+1) (zw h)];simp[hc]
  |false=>rw[hc]at body;rw[zG body];simp[hc]
theorem t71(k:Nat)(s:ByteArray):D (k+2) 71 [S1 (St s)]=some (S1 (Bo (isName s))):=by
 rw[D71];unfold P71 isName;simp only[zrT,zb,zg,zcL,yP,zfd];cases hl:s.data.toList with
 |nil=>rfl
 |cons c l=>
  have ix:zbC (.str s) (I6 0)=some (U8 (c.toNat:Int)):=by have:=zg4 s .i64 0;rw[hl]at this;exact this
  simp only[ix,zb,t95,zR,yI,zg];rw[show ((c::l:List UInt8)==(ByteArray.mk #[]).data.toList)=false from rfl];by_cases h1:l.length≤31
  ·have h2:¬(32<((c::l).length:Int)):=by simp only[Yzg];omega
   simp only[h2,h1,decide_true,decide_false,Yz1,Yzc,if_false];cases za9 (c.toNat:Int) with
   |false=>rfl
   |true=>have:=l71 k s (by rw[hl,Yzg];omega) l 1 (by rw[hl];rfl);simp only[Yzw,Yzc,if_false,Yz1];rw[show (I6 1:DV)=I6 ((1:Nat):Int) from rfl,this];cases l.all fun c=>zm9 (c.toNat:Int)<;>rfl
  ·have h2:32<((c::l).length:Int):=by simp only[Yzg];omega
   simp only[h1,h2,decide_true,decide_false,Bool.false_and,if_true];rfl
def right(a b:Int):Int:=if a<0 then 3 else if 127<b then 3 else if b<a then 23 else 0
theorem t98(k:Nat)(a b:Int):D (k+1) 98 [SA [I6 a,I6 b]]=some (S1 (I6 (right a b))):=by rw[D98];unfold P98 right;by_cases h1:a<0<;>by_cases h2:127<b<;>by_cases h3:b<a<;>simp[h1,h2,h3]
theorem zDq(_O:Orc):∀(b a:Nat),zB (zlK) [U64 (b:Int),U64 (a:Int)] []=some (.exit 0,[U64 ((Nat.gcd b a:Nat):Int)],[]):=by
 intro b
 induction b using Nat.strongRecOn with
 |ind b ih=>
  intro a;by_cases hb:0<b
  ·have hz:(b:Int)≠0:=by omega
   have h0:(0:Int)<(b:Int):=by omega
   rw[zx (L':=[U64 ((a % b:Nat):Int),U64 (b:Int)]) (M':=[]) (by simp only[zlK,zi,yU,yP,zb,zg,zcd _ _ _ hz,h0,decide_true,if_true];rfl),ih (a % b) (YzO _ hb) b,←Nat.gcd_rec]
  ·have:b=0:=by omega
   subst this;exact zl (by simp[zlK])
theorem t150(k:Nat)(a b:Nat):D (k+1) 150 [S1 (U64 (a:Int)),S1 (U64 (b:Int))]=some (S1 (U64 ((Nat.gcd b a:Nat):Int))):=by rw[zEb];unfold zBy;rw[zDq B];rfl
theorem jx{k:IntKind}{n:Nat}(h:n≤18446744073709551615):yi .u64 (.int k (n:Int))=some (U64 (n:Int)):=by show some (DV.int .u64 (bif Nat.ble n 18446744073709551615 then .ofNat n else IntKind.wrap .u64 (.ofNat n)))=_;rw[Yzl h];rfl
theorem t151(k:Nat){a:Int}(h1:-1000000≤a)(h2:a≤1000000):D (k+1) 151 [S1 (I6 a)]=some (S1 (U64 (a.natAbs:Int))):=by
 rw[zEa];unfold zBx;by_cases h:a<0
 ·obtain⟨n,rfl⟩:∃n:Nat,a=-(n:Int):=⟨a.natAbs,by omega⟩;have e1:yi .u64 (I6 (-(n:Int)))=some (U64 (18446744073709551616-(n:Int))):=by
   show some (DV.int .u64 (wI .u64 (-(n:Int))))=_;rw[zuj];congr 2;omega
  have e2:wI .u64 (-(18446744073709551616-(n:Int)))=(n:Int):=by rw[zuj];omega
  simp only[zc,zb,zg,h,decide_true,if_true,e1,zrU,e2];simp
 ·obtain⟨n,rfl⟩:∃n:Nat,a=(n:Int):=⟨a.natAbs,by omega⟩;simp only[zc,zb,zg,h,decide_false,Yzc,if_false,jx (show n≤18446744073709551615 by omega)];simp
def zdf(n d:Int):Int:=if d≤0 then 2 else if 1000000<d then 2 else if n < -1000000 then 2 else if 1000000<n then 2 else bif Nat.gcd d.toNat n.natAbs==1 then 0 else 2
theorem t122(k:Nat)(n d:Int):D (k+2) 122 [SA [I6 n,I6 d]]=some (S1 (I6 (zdf n d))):=by
 rw[zEh];unfold zBE zdf;simp only[xE,yP,zc,zb,zg,Yzn];by_cases h1:d≤0
 ·simp only[h1,if_true]
 by_cases h2:1000000<d
 ·simp only[h1,h2,if_true,if_false]
 by_cases h3:n < -1000000
 ·simp only[h1,h2,h3,if_true,if_false]
 by_cases h4:1000000<n
 ·simp only[h1,h2,h3,h4,if_true,if_false]
 obtain⟨m,rfl⟩:∃m:Nat,d=(m:Int):=⟨d.toNat,by omega⟩;simp only[h1,h2,h3,h4,if_false];rw[t151 k (by omega) (by omega)];simp only[zR,jx (show m≤18446744073709551615 by omega),zb,t150,yg,zg,Yzp];generalize Nat.gcd m n.natAbs=q;by_cases h5:q=1
 ·rw[h5];rfl
 ·have:¬((q:Int)=1):=by omega
  have h6:(q==1)=false:=by simpa using h5
  simp[this,h6]
def vI(n d:Int):Int:=if zdf n d≠0 then 2 else if n≤0 then 3 else if 128*d<n then 3 else if 128<d then 4 else 0
theorem t90(k:Nat)(n d:Int):D (k+3) 90 [SA [I6 n,I6 d]]=some (S1 (I6 (vI n d))):=by
 rw[D90];unfold P90 vI;rw[t122];simp only[zR,yg,zb,zg];by_cases h:zdf n d=0
 ·have hd:0<d∧d≤1000000:=by
   unfold zdf at h;split at h
   ·cases h
   split at h
   ·cases h
   omega
  simp only[h,xE,zb,zg,zi7 (show (-9223372036854775808:Int)≤128*d by omega) (show 128*d≤9223372036854775807 by omega),yP,Yzn];by_cases h1:n≤0
  ·simp[h1]
  by_cases h2:128*d<n
  ·simp[h1,h2]
  by_cases h3:128<d<;>simp[h1,h2,h3]
 ·simp[h]
theorem t96(k:Nat)(n:Int):D (k+1) 96 [S1 (I6 n)]=some (S1 (Bo (decide (-256≤n)&&decide (n≤256)))):=by rw[D96];unfold P96;by_cases h1:-256≤n<;>by_cases h2:n≤256<;>simp[h1,h2]
def wo(n:Int):Bool:=decide (n<0)||decide (1000000<n)
theorem t133(k:Nat)(n:Int):D (k+1) 133 [S1 (I6 n)]=some (S1 (Bo (wo n))):=by rw[zEf];unfold zBC wo;by_cases h1:n<0<;>by_cases h2:1000000<n<;>simp[h1,h2]
theorem zy9(O:Orc)(g:Nat)(ds:List DA):zeW O (.fn g []) ds=O g ds:=by simp[zeW]
def y3{α:Type}(p:α→Bool):List α→Nat→Option Nat
 | [],_=>none
 |x::l,i=>if p x then some i else y3 p l (i+1)
theorem vC{α:Type}(p:α→Bool):∀(l:List α) (i:Nat),(y3 p l i).isSome=l.any p
 | [],_=>rfl
 |x::l,i=>by
  simp only[y3,List.any_cons];cases h:p x
  ·simp[vC p l (i+1)]
  ·simp
def found:Option Nat→PX
 |some i=>(.ret,[I6 (i:Int)],[])
 |none=>(.exit 0,[],[])
abbrev enW(n:Int):List DV:=[I6 n]
theorem zDp(k:Nat)(w:Sl Int)(hw:w.els.length≤9223372036854775807):∀(r:List Int) (i:Nat),w.els.drop i=r→
  zB (zir (D (k+1)) (I6 (w.els.length:Int)) (enL 1 enW w) (.fn 133 [])) [I6 (i:Int)] []=some (found (y3 wo r i)):=by
 intro r
 induction r with
 |nil=>intro i h;refine zl ?_;simp only[zir,zi,zc,zb,yK (zH h),zg];rfl
 |cons x r ih=>
  intro i h;have h1:=zZ h;have ea:zf .add (I6 (i:Int)) (I6 1)=some (I6 ((i+1:Nat):Int)):=yf;have body:zir (D (k+1)) (I6 (w.els.length:Int)) (enL 1 enW w) (.fn 133 []) [I6 (i:Int)] []=some (if wo x then(.ret,[I6 (i:Int)],[]) else(.normal,[I6 ((i+1:Nat):Int)],[])):=by simp only[zir,zi,zc,zb,x4 h1,zg,if_true,zO h,yE,zy9,t133,zR,ea];cases wo x<;>rfl
  cases hc:wo x with
  |true=>rw[hc]at body;rw[zG body];simp[y3,hc,found]
  |false=>rw[hc]at body;rw[zx body,ih (i+1) (zw h)];simp[y3,hc]
theorem t163(k:Nat)(w:Sl Int)(hw:w.els.length≤9223372036854775807):D (k+2) 163 [S1 (enL 1 enW w),S1 (.fn 133 [])]=some (S1 (I6 (match y3 wo w.els 0 with|some i=>(i:Int)|none=>-1))):=by rw[zD9];unfold zBw;have:=zDp k w hw w.els 0 rfl;simp only[zA,zb];rw[show (I6 0:DV)=I6 ((0:Nat):Int) from rfl,this];cases y3 wo w.els 0<;>rfl
theorem t132(k:Nat)(w:Sl Int)(hw:w.els.length≤9223372036854775807):D (k+3) 132 [S1 (enL 1 enW w),S1 (.fn 133 [])]=some (S1 (Bo (w.els.any wo))):=by
 rw[zEg];unfold zBD;rw[t163 k w hw,←vC wo w.els 0];cases y3 wo w.els 0 with
 |none=>rfl
 |some i=>
  have:(0:Int)≤(i:Int):=by omega
  simp[this]
theorem t97(k:Nat)(w:Sl Int)(hw:w.els.length≤9223372036854775807):D (k+4) 97 [S1 (enL 1 enW w)]=some (S1 (I6 (if w.els.any wo then 3 else 0))):=by rw[D97];unfold P97;rw[t132 k w hw];cases w.els.any wo<;>rfl
structure Zk where
 name:ByteArray
 tone:ByteArray
 num:Int
 den:Int
 first:Int
 wind:Sl Int
def enR(r:Zk):List DV:=[St r.name,St r.tone,I6 r.num,I6 r.den,I6 r.first,enL 1 enW r.wind]
def xh(r:Zk):Int:=
 if !isName r.name then 8 else if !isName r.tone then 8 else if vI r.num r.den≠0 then vI r.num r.den
 else if !(decide (-256≤r.first)&&decide (r.first≤256)) then 3 else if r.wind.els.length=0 then 13 else if 128<r.wind.els.length then 4 else if r.wind.els.any wo then 3 else 0
theorem t72(k:Nat)(r:Zk)(hw:r.wind.els.length≤9223372036854775807):D (k+5) 72 [SA (enR r)]=some (S1 (I6 (xh r))):=by
 unfold enR;rw[D72];unfold P72 xh;simp only[t71,zR,yI,zb,zg];cases isName r.name with
 |false=>rfl
 |true=>
  cases isName r.tone with
  |false=>rfl
  |true=>
   simp only[t90,t96,t97 k r.wind hw,zR,yI,zb,zg,yg,zA,xF,yP,Yzw,Yzc,if_false];by_cases h1:vI r.num r.den=0
   ·simp only[h1];cases (decide (-256≤r.first)&&decide (r.first≤256)) with
    |false=>rfl
    |true=>
     by_cases h2:r.wind.els.length=0
     ·simp[h2]
     ·have h3:¬((r.wind.els.length:Int)=0):=by omega
      by_cases h4:128<r.wind.els.length
      ·have h5:(128:Int)<(r.wind.els.length:Int):=by omega
       simp[h2,h4,h5]
      ·have h5:¬((128:Int)<(r.wind.els.length:Int)):=by omega
       simp[h2,h4,h5]
   ·simp[h1]
def vQ:List Zk→Int
 | []=>0
 |r::l=>if xh r≠0 then xh r else vQ l
def zei(r:Zk):Prop:=r.wind.els.length≤9223372036854775807
def zm0(id:Nat)(e:Int):PX:=if e≠0 then(.ret,[I6 e],[]) else(.exit id,[],[])
theorem zDu(k:Nat)(l:Sl Zk)(hl:l.els.length≤9223372036854775807)(hr:∀r∈l.els,zei r):∀(r:List Zk) (i:Nat),l.els.drop i=r→
  zB (ziu (D (k+5)) (I6 (l.els.length:Int)) (enL 6 enR l)) [I6 (i:Int)] []=some (zm0 0 (vQ r)):=by
 intro r
 induction r with
 |nil=>intro i h;refine zl ?_;simp only[ziu,zi,zc,zb,yK (zH h),zg];rfl
 |cons x r ih=>
  intro i h;have h1:=zZ h;have ea:zf .add (I6 (i:Int)) (I6 1)=some (I6 ((i+1:Nat):Int)):=yf;have hx:zei x:=hr x (Lz3 (zJ h));have c:D (k+5) 72 [SA [atD (enR x) 0,atD (enR x) 1,atD (enR x) 2,atD (enR x) 3,atD (enR x) 4,atD (enR x) 5]]=some (S1 (I6 (xh x))):=t72 k x hx;have body:ziu (D (k+5)) (I6 (l.els.length:Int)) (enL 6 enR l) [I6 (i:Int)] []=some (if xh x≠0 then(.ret,[I6 (xh x)],[]) else(.normal,[I6 ((i+1:Nat):Int)],[])):=by simp only[ziu,zi,zc,zb,x4 h1,zg,if_true,zO h,c,zR,yg,ea];by_cases hz:xh x=0<;>simp[hz]
  by_cases hc:xh x=0
  ·rw[Yzb (by simpa using hc)]at body;rw[zx body,ih (i+1) (zw h)];simp[vQ,hc]
  ·rw[Yze hc]at body;rw[zG body];simp[vQ,hc,zm0]
structure Place where
 ranks:Sl Zk
 low:Int
 high:Int
def enP(x:Place):List DV:=[enL 6 enR x.ranks,I6 x.low,I6 x.high]
structure Place.ok (x:Place):Prop where
 len:x.ranks.els.length≤9223372036854775807
 ranks:∀r∈x.ranks.els,zei r
def jk(x:Place):Int:=if 60<x.ranks.els.length then 4 else if vQ x.ranks.els≠0 then vQ x.ranks.els else right x.low x.high
theorem t134(k:Nat)(x:Place)(hx:x.ok):D (k+6) 134 [SA (enP x)]=some (S1 (I6 (jk x))):=by
 unfold enP;rw[zEe];unfold zBB jk;have:=zDu k x.ranks hx.len hx.ranks x.ranks.els 0 rfl;simp only[zA,zb,yP,zg];rw[show (I6 0:DV)=I6 ((0:Nat):Int) from rfl,this];by_cases h1:60<x.ranks.els.length
 ·have h2:(60:Int)<(x.ranks.els.length:Int):=by omega
  simp[h1,h2]
 ·have h2:¬((60:Int)<(x.ranks.els.length:Int)):=by omega
  simp only[h1,h2,decide_false,Yzc,if_false];unfold zm0;by_cases h3:vQ x.ranks.els=0
  ·simp[h3,t98]
  ·simp[h3]
structure Zp where
 rank:Int
 shift:Int
deriving DecidableEq
def enD(d:Zp):List DV:=[I6 d.rank,I6 d.shift]
theorem zpX(a b:Zp):zb1 [1,1] [I6 a.rank,I6 a.shift] [I6 b.rank,I6 b.shift]=some (decide (a=b)):=by
 cases a with|mk r s=>
 cases b with|mk r' s'=>
 simp only[zb1,eqD,xw,Yza,jE];by_cases h1:r=r'
 ·by_cases h2:s=s'
  ·simp[h1,h2]
  ·have e2:(s==s')=false:=by simpa using h2
   simp[h1,h2,e2]
 ·have e1:(r==r')=false:=by simpa using h1
  simp[h1,e1]
theorem zDo(d:Zp)(l:Sl Zp)(hl:l.els.length≤9223372036854775807):∀(r:List Zp) (i:Nat),l.els.drop i=r→
  zB (ziq (I6 (l.els.length:Int)) (enL 2 enD l) (I6 d.rank) (I6 d.shift)) [I6 (i:Int)] []=some (found (y3 (fun x=>decide (d=x)) r i)):=by
 intro r
 induction r with
 |nil=>intro i h;refine zl ?_;simp only[ziq,zi,zc,zb,yK (zH h),zg];rfl
 |cons x r ih=>
  intro i h;have h1:=zZ h;have ea:zf .add (I6 (i:Int)) (I6 1)=some (I6 ((i+1:Nat):Int)):=yf;have eq:=zpX d x;have body:ziq (I6 (l.els.length:Int)) (enL 2 enD l) (I6 d.rank) (I6 d.shift) [I6 (i:Int)] []=some (if d=x then(.ret,[I6 (i:Int)],[]) else(.normal,[I6 ((i+1:Nat):Int)],[])):=by simp only[ziq,zi,zc,zb,x4 h1,zg,if_true,zO h,enD,yE,xc,eq,ea];by_cases hz:d=x<;>simp[hz]
  by_cases hc:d=x
  ·rw[Yze hc]at body;rw[zG body];simp[y3,hc,found]
  ·rw[Yzb hc]at body;rw[zx body,ih (i+1) (zw h)];simp[y3,hc]
theorem t177(k:Nat)(d:Zp)(l:Sl Zp)(hl:l.els.length≤9223372036854775807):D (k+1) 177 [S1 (enL 2 enD l),SA (enD d)]=some (S1 (I6 (match y3 (fun x=>decide (d=x)) l.els 0 with|some i=>(i:Int)|none=>-1))):=by unfold enD;rw[zD7];unfold zBu;have:=zDo d l hl l.els 0 rfl;unfold enD at this;simp only[zA,zb];rw[show (I6 0:DV)=I6 ((0:Nat):Int) from rfl,this];cases y3 (fun x=>decide (d=x)) l.els 0<;>rfl
theorem t164(k:Nat)(d:Zp)(l:Sl Zp)(hl:l.els.length≤9223372036854775807):D (k+2) 164 [S1 (enL 2 enD l),SA (enD d)]=some (S1 (Bo (l.els.any fun x=>decide (d=x)))):=by
 have:=t177 k d l hl;unfold enD at this ⊢;rw[zD8];unfold zBv;rw[this,←vC (fun x=>decide (d=x)) l.els 0];cases y3 (fun x=>decide (d=x)) l.els 0 with
 |none=>rfl
 |some i=>
  have:(0:Int)≤(i:Int):=by omega
  simp[this]
end Go.Proofs.Tryz.Kn
end
section
namespace Go.Proofs.Tryz.Kn
open Go Go.CE Go.PE
theorem zBo(y:Nat):zbT none 0 y=some 0:=rfl
theorem zwq{k:IntKind}{i d y:Nat}(h:i≤y):zbT (some (.int k (i:Int))) d y=some i:=by show (bif Nat.ble i y then some i else none)=_;rw[Yzl h];rfl
theorem zcJ{α:Type}{st i:Nat}{f:α→List DV}{l:List α}{k:IntKind}(h:i≤l.length):
  jT st (enL st f (some l)) none (some (.int k (i:Int)))=some (enL st f (some (l.take i))):=by
 unfold jT;rw[w7];simp only[Yzj,Yza,Yzq,zwq h,zBo];rw[Bool.true_or,Yza,List.drop_zero,Yyq,←List.map_take];rfl
def uH(n:Nat):List Zp→List Zp→Int
 |_,[]=>0
 |p,d::r=>if d.rank<0 then 10 else if (n:Int)≤d.rank then 10 else if d.shift < -127 then 3 else if 127<d.shift then 3 else if p.any (fun x=>decide (d=x)) then 9 else uH n (p++[d]) r
def xx(n:Nat)(l:List Zp):Int:=if 8<l.length then 4 else uH n [] l
theorem zDt(k:Nat)(rs:Sl Zk)(l:List Zp)(hl:l.length≤9223372036854775807):∀(r:List Zp) (i:Nat),l.drop i=r→
  zB (zit (D (k+2)) (I6 (l.length:Int)) (enL 2 enD (some l)) (enL 6 enR rs)) [I6 (i:Int)] []=some (zm0 0 (uH rs.els.length (l.take i) r)):=by
 intro r
 induction r with
 |nil=>intro i h;refine zl ?_;simp only[zit,zi,zc,zb,yK (zH h),zg];rfl
 |cons x r ih=>
  intro i h;have h1:=zZ h;have ea:zf .add (I6 (i:Int)) (I6 1)=some (I6 ((i+1:Nat):Int)):=yf;have ix:yy 2 (enL 2 enD (some l)) (I6 (i:Int))=some (enD x):=zO (v:=some l) h _;have sl:jT 2 (enL 2 enD (some l)) none (some (I6 (i:Int)))=some (enL 2 enD (some (l.take i))):=zcJ (by omega);have c:=t164 k x (some (l.take i)) (by simp only[Sl.els,Yyb,List.length_take];omega);simp only[enD]at c;have body:zit (D (k+2)) (I6 (l.length:Int)) (enL 2 enD (some l)) (enL 6 enR rs) [I6 (i:Int)] [] =
    some (if x.rank<0 then(.ret,[I6 10],[]) else if (rs.els.length:Int)≤x.rank then(.ret,[I6 10],[]) else if x.shift < -127 then(.ret,[I6 3],[]) else if 127<x.shift then(.ret,[I6 3],[]) else if (l.take i).any (fun y=>decide (x=y)) then(.ret,[I6 9],[]) else(.normal,[I6 ((i+1:Nat):Int)],[])):=by
   simp only[zit,zi,zc,zb,x4 h1,zg,if_true,ix,enD,yE,xc,zA,xQ,yP,sl,c,zR,ea,Yzn,Sl.els,Yyb]
   repeat (split<;>try rfl)
  have hn:l.take (i+1)=l.take i++[x]:=by rw[Yyf,zJ h];rfl
  unfold uH;by_cases a1:x.rank<0
  ·rw[Yze a1]at body ⊢;rw[zG body];rfl
  rw[Yzb a1]at body ⊢;by_cases a2:(rs.els.length:Int)≤x.rank
  ·rw[Yze a2]at body ⊢;rw[zG body];rfl
  rw[Yzb a2]at body ⊢;by_cases a3:x.shift < -127
  ·rw[Yze a3]at body ⊢;rw[zG body];rfl
  rw[Yzb a3]at body ⊢;by_cases a4:127<x.shift
  ·rw[Yze a4]at body ⊢;rw[zG body];rfl
  rw[Yzb a4]at body ⊢;by_cases a5:(l.take i).any (fun y=>decide (x=y))=true
  ·rw[Yze a5]at body ⊢;rw[zG body];rfl
  rw[Yzb a5]at body ⊢;rw[zx body,ih (i+1) (zw h),hn]
theorem t135(k:Nat)(x:Place)(l:Sl Zp)(hl:l.els.length≤9223372036854775807):D (k+3) 135 [SA (enP x),S1 (enL 2 enD l)]=some (S1 (I6 (xx x.ranks.els.length l.els))):=by
 unfold enP;rw[zEd];unfold zBA xx;simp only[zA,zb,yP,zg];by_cases h1:8<l.els.length
 ·have h2:(8:Int)<(l.els.length:Int):=by omega
  simp[h1,h2]
 ·have h2:¬((8:Int)<(l.els.length:Int)):=by omega
  simp only[h1,h2,decide_false,Yzc,if_false];cases l with
  |none=>rw[zl (id:=0) (L':=[]) (M':=[]) (by rfl)];rfl
  |some l=>
   have:=zDt k x.ranks l hl l 0 rfl;rw[show (I6 0:DV)=I6 ((0:Nat):Int) from rfl,show Sl.els (some l:Sl Zp)=l from rfl,this,List.take_zero];unfold zm0;by_cases h3:uH x.ranks.els.length [] l=0
   ·simp[h3]
   ·simp[h3]
structure Seg where
 lo:Int
 hi:Int
 draws:Sl Zp
def enS(g:Seg):List DV:=[I6 g.lo,I6 g.hi,enL 2 enD g.draws]
def zxh(g:Seg):Prop:=g.draws.els.length≤9223372036854775807
structure Zr where
 name:ByteArray
 num:Int
 den:Int
 segs:Sl Seg
def xe(s:Zr):List DV:=[St s.name,I6 s.num,I6 s.den,enL 3 enS s.segs]
structure Zr.ok (s:Zr):Prop where
 len:s.segs.els.length≤9223372036854775807
 segs:∀g∈s.segs.els,zxh g
def leO(a:Int):Option Int→Bool
 |some t=>decide (a≤t)
 |none=>false
def zbB(l:List Seg):Nat→Option Int
 |0=>none
 |j+1=>(l[j]?).map Seg.hi
def jf(x:Place):List Seg→Option Int→Int
 | [],_=>0
 |g::r,p=>
  if min g.lo g.hi<x.low then 23 else if x.high<max g.lo g.hi then 23 else if g.hi<g.lo then 6
  else if leO g.lo p then 6
  else if xx x.ranks.els.length g.draws.els≠0 then xx x.ranks.els.length g.draws.els else jf x r (some g.hi)
theorem l99(k:Nat)(x:Place)(l:Sl Seg)(hl:l.els.length≤9223372036854775807)(hs:∀g∈l.els,zxh g):∀(r:List Seg) (i:Nat),l.els.drop i=r→
  zB (zhY (D (k+3)) (I6 (l.els.length:Int)) (enL 3 enS l) (I6 x.low) (I6 x.high) (enL 6 enR x.ranks)) [I6 (i:Int)] []=some (zm0 1 (jf x r (zbB l.els i))):=by
 intro r
 induction r with
 |nil=>intro i h;refine zl ?_;simp only[zhY,zi,zc,zb,yK (zH h),zg];rfl
 |cons g r ih=>
  intro i h;have h1:=zZ h;have ea:zf .add (I6 (i:Int)) (I6 1)=some (I6 ((i+1:Nat):Int)):=yf;have c:=t135 k x g.draws (hs g (Lz3 (zJ h)));simp only[enP]at c;have body:zhY (D (k+3)) (I6 (l.els.length:Int)) (enL 3 enS l) (I6 x.low) (I6 x.high) (enL 6 enR x.ranks) [I6 (i:Int)] [] =
    some (if min g.lo g.hi<x.low then(.ret,[I6 23],[]) else if x.high<max g.lo g.hi then(.ret,[I6 23],[]) else if g.hi<g.lo then(.ret,[I6 6],[])
     else if leO g.lo (zbB l.els i)=true then(.ret,[I6 6],[]) else if xx x.ranks.els.length g.draws.els≠0 then(.ret,[I6 (xx x.ranks.els.length g.draws.els)],[]) else(.normal,[I6 ((i+1:Nat):Int)],[])):=by
   simp only[zhY,zi,zc,zb,x4 h1,zg,if_true,zO h,enS,yE,xc,zxG,zxH,yP,c,zR,ea,Yzn,yg];have tail:(if (!(xx x.ranks.els.length g.draws.els==0))=true then some ((.ret,[I6 (xx x.ranks.els.length g.draws.els)],[]):PX) else some (.normal,[I6 ((i+1:Nat):Int)],[])) =
     some (if xx x.ranks.els.length g.draws.els≠0 then(.ret,[I6 (xx x.ranks.els.length g.draws.els)],[]) else(.normal,[I6 ((i+1:Nat):Int)],[])):=by
    by_cases hz:xx x.ranks.els.length g.draws.els=0<;>simp[hz]
   rw[tail];cases i with
   |zero=>
    have:¬((0:Int)<((0:Nat):Int)):=by omega
    simp only[this,if_false,Yzc,zbB,leO]
    repeat (split<;>try rfl)
   |succ j=>
    obtain⟨q,hq⟩:∃q,l.els[j]? = some q:=⟨_,Lz5 (by omega)⟩;have h2:(0:Int)<((j+1:Nat):Int):=by omega
    have es:zf .sub (I6 ((j+1:Nat):Int)) (I6 1)=some (I6 (((j+1:Nat):Int)-1)):=zbW;have e1:((j+1:Nat):Int)-1=(j:Int):=by omega
    rw[e1]at es;have ix:yy 3 (enL 3 enS l) (I6 (j:Int))=some (enS q):=by rw[yb,hq];rfl
    simp only[zbB,hq,Yz0,leO,h2,if_true,es,zb,ix,enS,xc,yE,xE,zg,Yzn]
    repeat (split<;>try rfl)
  have hp:zbB l.els (i+1)=some g.hi:=by simp only[zbB,zJ h,Yz0]
  unfold jf;by_cases a1:min g.lo g.hi<x.low
  ·rw[Yze a1]at body ⊢;rw[zG body];rfl
  rw[Yzb a1]at body ⊢;by_cases a2:x.high<max g.lo g.hi
  ·rw[Yze a2]at body ⊢;rw[zG body];rfl
  rw[Yzb a2]at body ⊢;by_cases a3:g.hi<g.lo
  ·rw[Yze a3]at body ⊢;rw[zG body];rfl
  rw[Yzb a3]at body ⊢;by_cases a4:leO g.lo (zbB l.els i)=true
  ·rw[Yze a4]at body ⊢;rw[zG body];rfl
  rw[Yzb a4]at body ⊢;by_cases a5:xx x.ranks.els.length g.draws.els≠0
  ·rw[Yze a5]at body ⊢;rw[zG body];unfold zm0;rw[Yze a5]
  rw[Yzb a5]at body ⊢;rw[zx body,ih (i+1) (zw h),hp]
def uD(x:Place)(s:Zr):Int:=
 if jk x≠0 then jk x else if !isName s.name then 8 else if vI s.num s.den≠0 then vI s.num s.den
 else if s.segs.els.length=0 then 13 else if 12<s.segs.els.length then 4 else jf x s.segs.els none
theorem t99(k:Nat)(x:Place)(s:Zr)(hx:x.ok)(hs:s.ok):D (k+7) 99 [SA (enP x),SA (xe s)]=some (S1 (I6 (uD x s))):=by
 have c1:=t134 k x hx;have l:=l99 (k+3) x s.segs hs.len hs.segs s.segs.els 0 rfl;unfold enP at c1 ⊢;unfold xe;rw[D99];unfold P99 uD;simp only[c1,t71,t90,zR,yg,zb,zg,yI,zA,xF,yP];by_cases h1:jk x=0
 ·simp only[h1];cases isName s.name with
  |false=>rfl
  |true=>
   by_cases h2:vI s.num s.den=0
   ·simp only[h2];by_cases h3:s.segs.els.length=0
    ·simp[h3]
    ·have h4:¬((s.segs.els.length:Int)=0):=by omega
     by_cases h5:12<s.segs.els.length
     ·have h6:(12:Int)<(s.segs.els.length:Int):=by omega
      simp[h3,h5,h6]
     ·have h6:¬((12:Int)<(s.segs.els.length:Int)):=by omega
      rw[show (I6 0:DV)=I6 ((0:Nat):Int) from rfl,l,show zbB s.segs.els 0=none from rfl];unfold zm0;by_cases h7:jf x s.segs.els none=0
      ·simp[h3,h5,h6,h7]
      ·simp[h3,h5,h6,h7]
   ·simp[h2]
 ·simp[h1]
end Go.Proofs.Tryz.Kn
end
section
namespace Go.Proofs.Tryz.Kn
open Go Go.CE Go.PE
def enF(p:Int×Int):List DV:=[I6 p.1,I6 p.2]
def feetA:List (Int×Int):=[(8,1),(4,1),(16,1),(2,1),(8,3),(8,5),(4,3),(1,1),(32,1),(16,3),(16,5),(32,3),(8,7),(2,3),(1,2),(64,1)]
def feetB:List (Int×Int):=[(8,1),(4,1),(16,1),(8,3),(2,1),(8,5)]
def fA(n:Nat):Int×Int:=(feetA[n % 16]?).getD (8,1)
def fB(n:Nat):Int×Int:=(feetB[n % 6]?).getD (8,1)
theorem ztU(n:Nat):feetA[n % 16]? = some (fA n):=by unfold fA;rw[Lz5 (show n % 16<feetA.length by rw[show feetA.length=16 from rfl];exact YzO _ (by omega))];rfl
theorem ztS(n:Nat):feetB[n % 6]? = some (fB n):=by unfold fB;rw[Lz5 (show n % 6<feetB.length by rw[show feetB.length=6 from rfl];exact YzO _ (by omega))];rfl
theorem ztT(n:Nat):fA n∈feetA:=Lz3 (ztU n)
theorem zeM(n:Nat):fB n∈feetB:=Lz3 (ztS n)
theorem zyx:∀p∈feetA,vI p.1 p.2=0:=by
 have:(feetA.all fun p=>vI p.1 p.2==0)=true:=by kernel_rfl
 intro p hp
 simpa using Yz3.1 this p hp
theorem zyw:∀p∈feetB,vI p.1 p.2=0:=by
 have:(feetB.all fun p=>vI p.1 p.2==0)=true:=by kernel_rfl
 intro p hp
 simpa using Yz3.1 this p hp
theorem zDY:(shSums.all fun s=>match wB s.g s.args ⟨.z,.nil⟩ bSums with|some v=>eqA v s.res|none=>false)=true:=by kernel_rfl
theorem zBS{s:CE.Sum}(hs:s∈shSums){xs:List DA}{d:DA}(hg:([91,92,93,94]:List Nat).any (Nat.beq s.g)=true)(ha:avs xs=some s.args)(hd:ofA s.res=some d):B s.g xs=some d:=by
 have h:=Yz3.1 zDY s hs;split at h
 ·rename_i v hv;have:=zlg h;subst this;unfold B zw7;have:(bIds.any (Nat.beq s.g))=true:=by
   simp only[bIds,List.any_cons,List.any_nil,Bool.or_false,YzJ]at hg ⊢;rcases hg with h|h|h|h<;>simp[h]
  rw[this,Yza,ha];simp only[hv,hd]
 ·cases h
theorem zq7(k:Nat){s:CE.Sum}(hs:s∈shSums){xs:List DA}{d:DA}(hg:([91,92,93,94]:List Nat).any (Nat.beq s.g)=true)(ha:avs xs=some s.args)(hd:ofA s.res=some d):D k s.g xs=some d:=zhB (zBS hs hg ha hd)
theorem zvi{n:Nat}(h:n∈pows):za0 n∈shSums:=by unfold shSums;exact Yzv _ (Yzv _ (Yzv _ (List.mem_map_of_mem h)))
theorem mem_of{n:Nat}(h:n∈pows):ofS n∈shSums:=by unfold shSums;exact Yzv _ (Yzv _ (YzB _ (List.mem_map_of_mem h)))
theorem zpc{x:Nat×Nat}(h:x∈dens){s:CE.Sum}(hs:s∈xX x):s∈shSums:=by unfold shSums;exact Yzv _ (YzB _ (List.mem_flatMap.2 ⟨x,h,hs⟩))
theorem zvj{x:Nat×Nat×Nat}(h:x∈prs){s:CE.Sum}(hs:s∈yN x):s∈shSums:=by unfold shSums;exact YzB _ (List.mem_flatMap.2 ⟨x,h,hs⟩)
theorem e92(k:Nat){n:Nat}(h:n∈pows):D k 92 [S1 (I6 (n:Int))]=some (S1 (St (dec n))):=zq7 k (mem_of h) rfl rfl rfl
theorem e91(k:Nat){n:Nat}(h:n∈pows):D k 91 [S1 (St (dec n)),S1 (I6 24)]=some (.tup [.one (St (dec (n^24))),.one (I6 0)]):=zq7 k (zvi h) rfl rfl rfl
theorem zD3(k:Nat){x:Nat×Nat}(h:x∈dens):D k 93 [S1 (St (dec (x.1^24))),S1 (.str ⟨#[50]⟩)]=some (S1 (St (dec (lim x.1 0)))):=by
 have e:x.1^24*2=lim x.1 0:=by unfold lim;omega
 rw[←e];exact zq7 k (zpc h (Yzh ..)) rfl rfl rfl
theorem zD2(k:Nat){x:Nat×Nat}(h:x∈dens){j:Nat}(hj:j<x.2):D k 93 [S1 (St (dec (lim x.1 j))),S1 (.str ⟨#[52]⟩)]=some (S1 (St (dec (lim x.1 (j+1))))):=by
 have e:lim x.1 j*4=lim x.1 (j+1):=by show 2*x.1^24*4^j*4=2*x.1^24*4^(j+1);rw[Nat.mul_assoc (2*x.1^24),←Nat.pow_succ]
 rw[←e];exact zq7 k (zpc h (Yzf _ (List.mem_map.2 ⟨j,List.mem_range.2 hj,rfl⟩))) rfl rfl rfl
theorem e94(k:Nat){x:Nat×Nat×Nat}(h:x∈prs){j:Nat}(hj:j≤x.2.2):D k 94 [S1 (St (dec (x.1^24))),S1 (St (dec (lim x.2.1 j)))]=some (S1 (I6 (zwT (x.1^24) (lim x.2.1 j)))):=
 zq7 k (zvj h (List.mem_map.2 ⟨j,List.mem_range.2 (by omega),rfl⟩)) rfl rfl rfl
def upN:Nat→Nat→Nat→Int→Nat×Int
 |0,num,_,n=>(num,n)
 |f+1,num,den,n=>if num<den then upN f (num*2) den (n-12) else(num,n)
def dnN:Nat→Nat→Nat→Int→Nat×Int
 |0,_,den,n=>(den,n)
 |f+1,num,den,n=>if 2*den≤num then dnN f num (den*2) (n+12) else(den,n)
theorem zDi(den:Nat)(hd:den≤1000000):∀(f num:Nat) (n:Int),den≤(upN f num den n).1→-1000000≤n-12*(f:Int)→n≤1000000→
  zB (znh (I6 (den:Int))) [I6 (num:Int),I6 n] []=some (.exit 0,[I6 ((upN f num den n).1:Int),I6 (upN f num den n).2],[]):=by
 intro f
 induction f with
 |zero=>intro num n h _ _;have h:den≤num:=h;have:decide ((num:Int)<(den:Int))=false:=yK h;refine zl ?_;simp only[znh,zi,yU,zc,zb,this,zg,upN];rfl
 |succ f ih=>
  intro num n h h2 h3;unfold upN at h ⊢;by_cases hc:num<den
  ·rw[Yze hc]at h ⊢;have h1:decide ((num:Int)<(den:Int))=true:=x4 hc;have e1:zf .mul (I6 (num:Int)) (I6 2)=some (I6 ((num*2:Nat):Int)):=by
    rw[show ((num*2:Nat):Int)=(num:Int)*2 by omega];exact zi7 (by omega) (by omega)
   have e2:zf .sub (I6 n) (I6 12)=some (I6 (n-12)):=zbW;have body:znh (I6 (den:Int)) [I6 (num:Int),I6 n] []=some (.normal,[I6 ((num*2:Nat):Int),I6 (n-12)],[]):=by simp only[znh,zi,yU,zc,zb,h1,zg,if_true,e1,e2]
   rw[zx body];exact ih _ _ h (by omega) (by omega)
  ·rw[Yzb hc];have:decide ((num:Int)<(den:Int))=false:=yK (by omega);refine zl ?_;simp only[znh,zi,yU,zc,zb,this,zg];rfl
theorem zDl(a:DV)(num:Nat)(hd:num≤1000000):∀(f den:Nat) (n:Int),num<2*(dnN f num den n).1→n+12*(f:Int)≤1000000→-1000000≤n→0<den→den≤1000000→
  zB (ze1 [I6 (num:Int),a]) [I6 (den:Int),I6 n] []=some (.exit 2,[I6 ((dnN f num den n).1:Int),I6 (dnN f num den n).2],[]):=by
 intro f
 induction f with
 |zero=>
  intro den n h _ _ _ h5;have h:num<2*den:=h;have e1:zf .mul (I6 2) (I6 (den:Int))=some (I6 ((2*den:Nat):Int)):=by rw[show ((2*den:Nat):Int)=2*(den:Int) by omega];exact zi7 (by omega) (by omega)
  have:decide (((2*den:Nat):Int)≤(num:Int))=false:=decide_eq_false (by omega);refine zl ?_;simp only[ze1,zi,yU,e1,xQ,zb,this,zg,dnN];rfl
 |succ f ih=>
  intro den n h h2 h3 h4 h5;unfold dnN at h ⊢;have e1:zf .mul (I6 2) (I6 (den:Int))=some (I6 ((2*den:Nat):Int)):=by rw[show ((2*den:Nat):Int)=2*(den:Int) by omega];exact zi7 (by omega) (by omega)
  by_cases hc:2*den≤num
  ·rw[Yze hc]at h ⊢;have h1:decide (((2*den:Nat):Int)≤(num:Int))=true:=decide_eq_true (by omega);have e3:zf .mul (I6 (den:Int)) (I6 2)=some (I6 ((den*2:Nat):Int)):=by
    rw[show ((den*2:Nat):Int)=(den:Int)*2 by omega];exact zi7 (by omega) (by omega)
   have e2:zf .add (I6 n) (I6 12)=some (I6 (n+12)):=yf;have body:ze1 [I6 (num:Int),a] [I6 (den:Int),I6 n] []=some (.normal,[I6 ((den*2:Nat):Int),I6 (n+12)],[]):=by simp only[ze1,zi,yU,e1,xQ,zb,h1,zg,if_true,e3,e2]
   rw[zx body];exact ih _ _ h (by omega) (by omega) (by omega) (by omega)
  ·rw[Yzb hc];have:decide (((2*den:Nat):Int)≤(num:Int))=false:=decide_eq_false (by omega);refine zl ?_;simp only[ze1,zi,yU,e1,xQ,zb,this,zg];rfl
theorem zuU:(prs.all fun x=>(List.range x.2.2).all (fun j=>Nat.ble (Nat.succ (lim x.2.1 j)) (x.1^24))&&Nat.ble (x.1^24) (lim x.2.1 x.2.2))=true:=by kernel_rfl
theorem zon:(prs.all fun x=>dens.any (fun y=>Nat.beq y.1 x.2.1&&Nat.ble x.2.2 y.2)&&pows.any (Nat.beq x.1)&&pows.any (Nat.beq x.2.1))=true:=by kernel_rfl
theorem zgy{n:Nat}{l:List Nat}(h:l.any (Nat.beq n)=true):n∈l:=by obtain⟨y,hy,e⟩:=List.any_eq_true.1 h;rw[Lz1 e];exact hy
theorem zDm(k:Nat)(x:Nat×Nat×Nat)(hx:x∈prs)(n:Int)(h1:-1000000≤n)(h2:n≤1000000)(hm:x.2.2≤100):∀(r j:Nat),j+r=x.2.2→
  zB (zh0 (D k) [.one (St (dec (x.1^24))),.one (I6 0)]) [St (dec (lim x.2.1 j)),I6 (n+(j:Int))] []=some (.exit 4,[I6 (n+(x.2.2:Int))],[]):=by
 have hc:=Yz3.1 zuU x hx;have hdn:=Yz3.1 zon x hx;simp only[LzC]at hc hdn;obtain⟨y,hy,ey⟩:=List.any_eq_true.1 hdn.1.1;simp only[LzC]at ey;have ey1:y.1=x.2.1:=Lz1 ey.1;have ey2:=Lz4 ey.2;intro r
 induction r with
 |zero=>
  intro j hj;have hj:j=x.2.2:=by omega
  subst hj;have c:=e94 k hx (LzB _);have hle:=Lz4 hc.2;have hs:decide ((0:Int)<zwT (x.1^24) (lim x.2.1 x.2.2))=false:=by unfold zwT;rw[show Nat.ble (Nat.succ (lim x.2.1 x.2.2)) (x.1^24)=false from by cases hb:Nat.ble (Nat.succ (lim x.2.1 x.2.2)) (x.1^24) with|false=>rfl|true=>have:=Lz4 hb;omega];cases Nat.ble (Nat.succ (x.1^24)) (lim x.2.1 x.2.2)<;>rfl
  refine zl ?_;simp only[zh0,zi,yU,zeR,zbi,c,zR,yP,zb,hs,zg];rfl
 |succ r ih=>
  intro j hj;have c:=e94 k hx (show j≤x.2.2 by omega);have m:=zD2 k hy (show j<y.2 by omega);rw[ey1]at m;have hlt:=Lz4 (Yz3.1 hc.1 j (List.mem_range.2 (by omega)));have hs:decide ((0:Int)<zwT (x.1^24) (lim x.2.1 j))=true:=by unfold zwT;rw[Yzl hlt];rfl
  have ea:zf .add (I6 (n+(j:Int))) (I6 1)=some (I6 (n+((j+1:Nat):Int))):=by rw[show n+((j+1:Nat):Int)=n+(j:Int)+1 by omega];exact yf
  have body:zh0 (D k) [.one (St (dec (x.1^24))),.one (I6 0)] [St (dec (lim x.2.1 j)),I6 (n+(j:Int))] []=some (.normal,[St (dec (lim x.2.1 (j+1))),I6 (n+((j+1:Nat):Int))],[]):=by simp only[zh0,zi,yU,zeR,zbi,c,zR,yP,zb,hs,zg,if_true,ea,m]
  rw[zx body];exact ih (j+1) (by omega)
def ztN(f g:Int×Int):Nat:=(g.1*f.2).toNat
def zm5(f g:Int×Int):Nat:=(g.2*f.1).toNat
def shU(f g:Int×Int):Nat×Int:=upN 20 (ztN f g) (zm5 f g) 0
def shD(f g:Int×Int):Nat×Int:=dnN 20 (shU f g).1 (zm5 f g) (shU f g).2
def shM(f g:Int×Int):Nat:=((prs.find? fun x=>Nat.beq x.1 (shU f g).1&&Nat.beq x.2.1 (shD f g).1).map fun x=>x.2.2).getD 0
def shf(f g:Int×Int):Int:=(shD f g).2+(shM f g:Int)
def zxc(f g:Int×Int):Bool:=
 decide (0≤g.1*f.2)&&decide (0<g.2*f.1)&&Nat.ble (zm5 f g) (shU f g).1&&Nat.ble (Nat.succ (shU f g).1) (2*(shD f g).1)&&(prs.any fun x=>Nat.beq x.1 (shU f g).1&&Nat.beq x.2.1 (shD f g).1&&Nat.beq x.2.2 (shM f g))
 && Nat.ble (zm5 f g) 1000000&&Nat.ble (ztN f g) 1000000&&Nat.ble (shU f g).1 1000000&&Nat.ble (shM f g) 100&&decide (-1000≤(shU f g).2)&&decide ((shU f g).2≤1000)&&decide (-1000≤(shD f g).2)&&decide ((shD f g).2≤1000)&&decide (-100≤shf f g)&&decide (shf f g≤100)
theorem zxa:(feetB.all fun f=>feetA.all fun g=>zxc f g)=true:=by kernel_rfl
structure Zx (f g:Int×Int):Prop where
 a:0≤g.1*f.2
 b:0<g.2*f.1
 c:zm5 f g≤(shU f g).1
 d:(shU f g).1<2*(shD f g).1
 e:∃x∈prs,x.1=(shU f g).1∧x.2.1=(shD f g).1∧x.2.2=shM f g
 f1:zm5 f g≤1000000
 f2:ztN f g≤1000000
 f3:(shU f g).1≤1000000
 f4:shM f g≤100
 g1:-1000≤(shU f g).2
 g2:(shU f g).2≤1000
 g3:-1000≤(shD f g).2
 g4:(shD f g).2≤1000
 h1:-100≤shf f g
 h2:shf f g≤100
theorem znQ{f g:Int×Int}(hf:f∈feetB)(hg:g∈feetA):Zx f g:=by have h:=Yz3.1 (Yz3.1 zxa f hf) g hg;unfold zxc at h;simp only[LzC,Yzn]at h;obtain⟨⟨⟨⟨⟨⟨⟨⟨⟨⟨⟨⟨⟨⟨a,b⟩,c⟩,d⟩,e⟩,f1⟩,f2⟩,f3⟩,f4⟩,g1⟩,g2⟩,g3⟩,g4⟩,h1⟩,h2⟩:=h;obtain⟨x,hx,hq⟩:=List.any_eq_true.1 e;simp only[LzC]at hq;exact⟨a,b,Lz4 c,Lz4 d,⟨x,hx,Lz1 hq.1.1,Lz1 hq.1.2,Lz1 hq.2⟩,Lz4 f1,Lz4 f2,Lz4 f3,Lz4 f4,g1,g2,g3,g4,h1,h2⟩
theorem znP(f g:Int×Int)(hf:f∈feetB)(hg:g∈feetA):-100≤shf f g∧shf f g≤100:=⟨(znQ hf hg).h1,(znQ hf hg).h2⟩
theorem t70(k:Nat)(f g:Int×Int)(hf:f∈feetB)(hg:g∈feetA):D (k+1) 70 [SA (enF f),SA (enF g)]=some (S1 (I6 (shf f g))):=by
 have H:=znQ hf hg;obtain⟨x,hx,x1,x2,x3⟩:=H.e;have a1:g.1*f.2=((ztN f g:Nat):Int):=by unfold ztN;have:=H.a;omega
 have a2:g.2*f.1=((zm5 f g:Nat):Int):=by unfold zm5;have:=H.b;omega
 have hb:=H.b;rw[a2]at hb;have b1:=H.f1;have b2:=H.f2;have b3:=H.f3;have b4:=H.f4;have c1:=H.g1;have c2:=H.g2;have c3:=H.g3;have c4:=H.g4
 have m1:zf .mul (I6 g.1) (I6 f.2)=some (I6 ((ztN f g:Nat):Int)):=by rw[←a1];exact zi7 (by omega) (by omega)
 have m2:zf .mul (I6 g.2) (I6 f.1)=some (I6 ((zm5 f g:Nat):Int)):=by rw[←a2];exact zi7 (by omega) (by omega)
 have lu:=zDi (zm5 f g) b1 20 (ztN f g) 0 H.c (by omega) (by omega);have ld:=zDl (I6 (shU f g).2) (shU f g).1 b3 20 (zm5 f g) (shU f g).2 H.d (by omega) (by omega) (by omega) b1;have lc:=zDm k x hx (shD f g).2 (by omega) (by omega) (by omega) x.2.2 0 (by omega);have hdn:=Yz3.1 zon x hx;simp only[LzC]at hdn;obtain⟨y,hy,ey⟩:=List.any_eq_true.1 hdn.1.1;simp only[LzC]at ey;have ey1:y.1=x.2.1:=Lz1 ey.1;have o1:=e92 k (zgy hdn.1.2);have p1:=e91 k (zgy hdn.1.2);have o2:=e92 k (zgy hdn.2);have p2:=e91 k (zgy hdn.2);have u0:=zD3 k hy;rw[ey1]at u0;rw[x1]at o1 p1 lc;rw[x2]at o2 p2 u0 lc;rw[x3]at lc;rw[show (shD f g).2+((0:Nat):Int)=(shD f g).2 by omega]at lc;have hU:upN 20 (ztN f g) (zm5 f g) 0=shU f g:=rfl;have hD:dnN 20 (shU f g).1 (zm5 f g) (shU f g).2=shD f g:=rfl;rw[hU]at lu;rw[hD]at ld;unfold enF;rw[D70];unfold P70;have bt:∀{β:Type} (a b:DV) (K:List DS→Option β),bT [none,none] (some (.tup [.one a,.one b])) K=K [.one a,.one b]:=fun _ _ _=>rfl;simp only[m1,m2,zb];rw[lu];simp only[zt,Yzj,Yza,zi,yU];rw[ld];simp only[zt,Yzj,Yza,zi,yU,o1,o2,zR,p1,p2,bt,zeR,zbi,u0];rw[lc];rfl
theorem t69(k:Nat)(f g:Int×Int)(hf:f∈feetB)(hg:g∈feetA):D (k+4) 69 [SA (enF f),SA (enF g)]=some (S1 (I6 0)):=by have c1:=t90 k f.1 f.2;have c2:=t90 k g.1 g.2;rw[zyw f hf]at c1;rw[zyx g hg]at c2;unfold enF;rw[D69];unfold P69;simp only[c1,c2,zR,yg,zb,zg];rfl
theorem t53(k:Nat)(f g:Int×Int)(hf:f∈feetB)(hg:g∈feetA):D (k+5) 53 [SA (enF f),SA (enF g)]=some (.tup [.one (I6 (shf f g)),.one (I6 0)]):=by have c1:=t69 k f g hf hg;have c2:=t70 (k+3) f g hf hg;unfold enF at c1 c2 ⊢;rw[D53];unfold P53;simp only[c1,c2,zR,yg,zb,zg];rfl
end Go.Proofs.Tryz.Kn
end
section
namespace Go.Proofs.Tryz.Kn
open Go Go.CE Go.PE
def eqB(a b:ByteArray):Bool:=a.data.toList==b.data.toList
def enN(s:ByteArray):List DV:=[St s,Bo true]
theorem zpZ(a b:ByteArray):ziz (.inl 2) (.one (St a)) (.one (St b))=some (eqB a b):=rfl
theorem qa(s:ByteArray):∀ns:List ByteArray,zf6 (.inl 2) 1048576 (.one (St s)) (ns.map enN)=some (if ns.any (eqB s)=true then some (.one (Bo true)) else none)
 | []=>rfl
 |n::ns=>by
  have e:ziz (.inl 2) (.one (St s)) (kD 1048576 (enN n))=some (eqB s n):=rfl;have v:vD 1048576 (enN n)=.one (Bo true):=rfl;rw[Yzy,zf6,e,v,qa s ns,List.any_cons];by_cases hq:eqB s n=true
  ·rw[hq];rfl
  ·rw[show eqB s n=false by simpa using hq];rfl
theorem zah(s:ByteArray):∀ns:List ByteArray,ns.any (eqB s)=false→zrc (.inl 2) 1048576 (.one (St s)) [St s,Bo true] (ns.map enN)=some ((ns++[s]).map enN)
 | [],_=>rfl
 |n::ns,h=>by simp only[List.any_cons,Bool.or_eq_false_iff]at h;have e:ziz (.inl 2) (.one (St s)) (kD 1048576 (enN n))=some (eqB s n):=rfl;simp only[Yzy,zrc,e,h.1,zah s ns h.2];rfl
theorem zvs(b:Bool):dsO (lkD (.one (Bo false)) (if b=true then some (DS.one (Bo true)) else none))=Bo b:=by cases b<;>rfl
structure Cpl where
 name:ByteArray
 src:Int
 dst:Int
 shift:Int
 thr:Bool
def enC(c:Cpl):List DV:=[St c.name,I6 c.src,I6 c.dst,I6 c.shift,Bo c.thr]
def enK(k:Int×Int):List DV:=[I6 k.1,I6 k.2]
theorem t101(k:Nat)(x c:Cpl):D (k+1) 101 [SA (enC x),S1 (.fp (enC c) 0)]=some (S1 (Bo (eqB x.name c.name))):=by unfold enC;rw[zEm];rfl
theorem zDr(k:Nat)(c:Cpl)(l:Sl Cpl)(hl:l.els.length≤9223372036854775807):∀(r:List Cpl) (i:Nat),l.els.drop i=r→
  zB (zis (D (k+1)) (I6 (l.els.length:Int)) (enL 5 enC l) (.fn 101 [enC c])) [I6 (i:Int)] []=some (found (y3 (fun x=>eqB x.name c.name) r i)):=by
 intro r
 induction r with
 |nil=>intro i h;refine zl ?_;simp only[zis,zi,zc,zb,yK (zH h),zg];rfl
 |cons x r ih=>
  intro i h;have h1:=zZ h;have ea:zf .add (I6 (i:Int)) (I6 1)=some (I6 ((i+1:Nat):Int)):=yf;have cx:zeW (D (k+1)) (.fn 101 [enC c]) [SA [atD (enC x) 0,atD (enC x) 1,atD (enC x) 2,atD (enC x) 3,atD (enC x) 4]]=some (S1 (Bo (eqB x.name c.name))):=t101 k x c;have body:zis (D (k+1)) (I6 (l.els.length:Int)) (enL 5 enC l) (.fn 101 [enC c]) [I6 (i:Int)] []=some (if eqB x.name c.name then(.ret,[I6 (i:Int)],[]) else(.normal,[I6 ((i+1:Nat):Int)],[])):=by simp only[zis,zi,zc,zb,x4 h1,zg,if_true,zO h,cx,zR,ea];cases eqB x.name c.name<;>rfl
  cases hc:eqB x.name c.name with
  |true=>rw[hc]at body;rw[zG body];simp[y3,hc,found]
  |false=>rw[hc]at body;rw[zx body,ih (i+1) (zw h)];simp[y3,hc]
theorem t100(k:Nat)(c:Cpl)(l:Sl Cpl)(hl:l.els.length≤9223372036854775807):D (k+3) 100 [S1 (enL 5 enC l),S1 (.fn 101 [enC c])]=some (S1 (Bo (l.els.any fun x=>eqB x.name c.name))):=by
 have e:D (k+2) 136 [S1 (enL 5 enC l),S1 (.fn 101 [enC c])]=some (S1 (I6 (match y3 (fun x=>eqB x.name c.name) l.els 0 with|some i=>(i:Int)|none=>-1))):=by rw[zEc];unfold zBz;have:=zDr k c l hl l.els 0 rfl;simp only[zA,zb];rw[show (I6 0:DV)=I6 ((0:Nat):Int) from rfl,this];cases y3 (fun x=>eqB x.name c.name) l.els 0<;>rfl
 rw[zEn];unfold zBL;rw[e,←vC (fun x=>eqB x.name c.name) l.els 0];cases y3 (fun x=>eqB x.name c.name) l.els 0 with
 |none=>rfl
 |some i=>
  have:(0:Int)≤(i:Int):=by omega
  simp[this]
def zjF(n:Nat):List Cpl→List Cpl→Int
 |_,[]=>0
 |p,c::r=>
  if isName c.name=false then 8 else if p.any (fun x=>eqB x.name c.name)=true then 9 else if c.src<0 then 10 else if (n:Int)≤c.src then 10 else if c.dst<0 then 10 else if (n:Int)≤c.dst then 10
  else if c.shift < -127 then 3 else if 127<c.shift then 3 else if c.src=c.dst∧c.shift=0 then 7 else zjF n (p++[c]) r
def zln(ks:List (Int×Int))(l:List Cpl):Int:=
 if 8<ks.length then 4 else if 40<l.length then 4 else if ks.any (fun k=>right k.1 k.2 != 0)=true then 23 else zjF ks.length [] l
theorem l75(k:Nat)(ks:Sl (Int×Int))(l:List Cpl)(hl:l.length≤9223372036854775807):∀(r:List Cpl) (i:Nat),l.drop i=r→
  zB (zhZ (D (k+3)) (I6 (l.length:Int)) (enL 5 enC (some l)) (enL 2 enK ks)) [I6 (i:Int)] []=some (zm0 2 (zjF ks.els.length (l.take i) r)):=by
 intro r
 induction r with
 |nil=>intro i h;refine zl ?_;simp only[zhZ,zi,zc,zb,yK (zH h),zg];rfl
 |cons x r ih=>
  intro i h;have h1:=zZ h;have ea:zf .add (I6 (i:Int)) (I6 1)=some (I6 ((i+1:Nat):Int)):=yf;have ix:yy 5 (enL 5 enC (some l)) (I6 (i:Int))=some (enC x):=zO (v:=some l) h _;have sl:jT 5 (enL 5 enC (some l)) none (some (I6 (i:Int)))=some (enL 5 enC (some (l.take i))):=zcJ (by omega);have c:=t100 k x (some (l.take i)) (by simp only[Sl.els,Yyb,List.length_take];omega);have cn:=t71 (k+1) x.name;simp only[enC,yn]at c;have body:zhZ (D (k+3)) (I6 (l.length:Int)) (enL 5 enC (some l)) (enL 2 enK ks) [I6 (i:Int)] [] =
    some (if isName x.name=false then(.ret,[I6 8],[]) else if (l.take i).any (fun y=>eqB y.name x.name)=true then(.ret,[I6 9],[]) else if x.src<0 then(.ret,[I6 10],[]) else if (ks.els.length:Int)≤x.src then(.ret,[I6 10],[])
     else if x.dst<0 then(.ret,[I6 10],[]) else if (ks.els.length:Int)≤x.dst then(.ret,[I6 10],[]) else if x.shift < -127 then(.ret,[I6 3],[]) else if 127<x.shift then(.ret,[I6 3],[])
     else if x.src=x.dst∧x.shift=0 then(.ret,[I6 7],[]) else(.normal,[I6 ((i+1:Nat):Int)],[])):=by
   simp only[zhZ,zi,zc,zb,x4 h1,zg,if_true,ix,enC,yE,xc,zA,xQ,yP,xF,sl,c,cn,zR,zy6,yI,ea,Yzn];cases isName x.name with
   |false=>simp
   |true=>
    simp only[Yzw,Yzc,if_false,Bool.true_eq_false]
    repeat' (split<;>try rfl)
    all_goals (first|rfl|simp_all)
  have hn:l.take (i+1)=l.take i++[x]:=by rw[Yyf,zJ h];rfl
  unfold zjF;by_cases a0:isName x.name=false
  ·rw[Yze a0]at body ⊢;rw[zG body];rfl
  rw[Yzb a0]at body ⊢;by_cases a1:(l.take i).any (fun y=>eqB y.name x.name)=true
  ·rw[Yze a1]at body ⊢;rw[zG body];rfl
  rw[Yzb a1]at body ⊢;by_cases a2:x.src<0
  ·rw[Yze a2]at body ⊢;rw[zG body];rfl
  rw[Yzb a2]at body ⊢;by_cases a3:(ks.els.length:Int)≤x.src
  ·rw[Yze a3]at body ⊢;rw[zG body];rfl
  rw[Yzb a3]at body ⊢;by_cases a4:x.dst<0
  ·rw[Yze a4]at body ⊢;rw[zG body];rfl
  rw[Yzb a4]at body ⊢;by_cases a5:(ks.els.length:Int)≤x.dst
  ·rw[Yze a5]at body ⊢;rw[zG body];rfl
  rw[Yzb a5]at body ⊢;by_cases a6:x.shift < -127
  ·rw[Yze a6]at body ⊢;rw[zG body];rfl
  rw[Yzb a6]at body ⊢;by_cases a7:127<x.shift
  ·rw[Yze a7]at body ⊢;rw[zG body];rfl
  rw[Yzb a7]at body ⊢;by_cases a8:x.src=x.dst∧x.shift=0
  ·rw[Yze a8]at body ⊢;rw[zG body];rfl
  rw[Yzb a8]at body ⊢;rw[zx body,ih (i+1) (zw h),hn]
theorem zDj(k:Nat)(ks:Sl (Int×Int))(hl:ks.els.length≤9223372036854775807):∀(r:List (Int×Int)) (i:Nat),ks.els.drop i=r→
  zB (zqM (D (k+1)) (I6 (ks.els.length:Int)) (enL 2 enK ks)) [I6 (i:Int)] []=some (if r.any (fun k=>right k.1 k.2 != 0)=true then(.ret,[I6 23],[]) else(.exit 0,[],[])):=by
 intro r
 induction r with
 |nil=>intro i h;refine zl ?_;simp only[zqM,zi,zc,zb,yK (zH h),zg];rfl
 |cons x r ih=>
  intro i h;have h1:=zZ h;have ea:zf .add (I6 (i:Int)) (I6 1)=some (I6 ((i+1:Nat):Int)):=yf;have c:=t98 k x.1 x.2;have body:zqM (D (k+1)) (I6 (ks.els.length:Int)) (enL 2 enK ks) [I6 (i:Int)] []=some (if right x.1 x.2=0 then(.normal,[I6 ((i+1:Nat):Int)],[]) else(.ret,[I6 23],[])):=by simp only[zqM,zi,zc,zb,x4 h1,zg,if_true,zO h,enK,yE,xc,c,zR,yg,ea];by_cases hz:right x.1 x.2=0<;>simp[hz]
  by_cases hc:right x.1 x.2=0
  ·rw[Yze hc]at body;rw[zx body,ih (i+1) (zw h),List.any_cons,hc];rfl
  ·rw[Yzb hc]at body;rw[zG body,Yze (by simp[hc])]
theorem t75(k:Nat)(ks:Sl (Int×Int))(l:Sl Cpl)(hk:ks.els.length≤9223372036854775807)(hl:l.els.length≤9223372036854775807):D (k+4) 75 [S1 (enL 2 enK ks),S1 (enL 5 enC l)]=some (S1 (I6 (zln ks.els l.els))):=by
 rw[D75];unfold P75 zln;have ck:=zDj (k+2) ks hk ks.els 0 rfl;simp only[zA,zb,yP,zg];rw[show (I6 0:DV)=I6 ((0:Nat):Int) from rfl,ck];by_cases h1:8<ks.els.length
 ·have h2:(8:Int)<(ks.els.length:Int):=by omega
  simp[h1,h2]
 have h2:¬((8:Int)<(ks.els.length:Int)):=by omega
 by_cases h3:40<l.els.length
 ·have h4:(40:Int)<(l.els.length:Int):=by omega
  simp[h1,h2,h3,h4]
 have h4:¬((40:Int)<(l.els.length:Int)):=by omega
 simp only[h1,h2,h3,h4,decide_false,Yzc,if_false];by_cases h5:ks.els.any (fun k=>right k.1 k.2 != 0)=true
 ·rw[Yze h5,Yze h5];rfl
 rw[Yzb h5,Yzb h5];simp only[zt,Yzj,Yza];cases l with
 |none=>rw[zl (id:=2) (L':=[]) (M':=[]) (by rfl)];rfl
 |some l=>have:=l75 k ks l hl l 0 rfl;rw[show Sl.els (some l:Sl Cpl)=l from rfl,this,List.take_zero];unfold zm0;by_cases h6:zjF ks.els.length [] l=0<;>simp[h6]
structure Zj where
 name:ByteArray
 pedal:Bool
 low:Int
 high:Int
 stops:Sl Zr
def enV(d:Zj):List DV:=[St d.name,Bo d.pedal,I6 d.low,I6 d.high,enL 4 xe d.stops]
structure Zj.ok (d:Zj):Prop where
 len:d.stops.els.length≤9223372036854775807
 stops:∀s∈d.stops.els,s.ok
structure Org where
 name:ByteArray
 ranks:Sl Zk
 divs:Sl Zj
 cpls:Sl Cpl
def enO(o:Org):List DV:=[St o.name,enL 6 enR o.ranks,enL 5 enV o.divs,enL 5 enC o.cpls]
structure Org.ok (o:Org):Prop where
 rl:o.ranks.els.length≤9223372036854775807
 ranks:∀r∈o.ranks.els,zei r
 dl:o.divs.els.length≤9223372036854775807
 divs:∀d∈o.divs.els,d.ok
 cl:o.cpls.els.length≤9223372036854775807
def qA(x:Place):List Zr→List ByteArray→Int
 | [],_=>0
 |s::r,ns=>if uD x s≠0 then uD x s else if ns.any (eqB s.name)=true then 9 else qA x r (ns++[s.name])
def zl8(id:Nat)(e:Int)(m:List OC):PX:=if e≠0 then(.ret,[I6 e],m) else(.exit id,[],m)
theorem l74(k:Nat)(x:Place)(hx:x.ok)(l:Sl Zr)(hl:l.els.length≤9223372036854775807)(hs:∀s∈l.els,s.ok):∀(r:List Zr) (i:Nat) (ns:List ByteArray),l.els.drop i=r→
  ∃m,zB (zqN (D (k+7)) (I6 (l.els.length:Int)) (enL 4 xe l) (enL 6 enR x.ranks) (I6 x.low) (I6 x.high)) [I6 (i:Int)] [some (ns.map enN)]=some (zl8 0 (qA x r ns) m):=by
 intro r
 induction r with
 |nil=>intro i ns h;refine⟨[some (ns.map enN)],zl ?_⟩;simp only[zqN,zi,zc,zb,yK (zH h),zg];rfl
 |cons s r ih=>
  intro i ns h;have h1:=zZ h;have ea:zf .add (I6 (i:Int)) (I6 1)=some (I6 ((i+1:Nat):Int)):=yf;have c:=t99 k x s hx (hs s (Lz3 (zJ h)));simp only[enP,xe]at c;have body:∃m,zqN (D (k+7)) (I6 (l.els.length:Int)) (enL 4 xe l) (enL 6 enR x.ranks) (I6 x.low) (I6 x.high) [I6 (i:Int)] [some (ns.map enN)] =
    some (if uD x s≠0 then(.ret,[I6 (uD x s)],m) else if ns.any (eqB s.name)=true then(.ret,[I6 9],m) else(.normal,[I6 ((i+1:Nat):Int)],[some ((ns++[s.name]).map enN)])):=by
   refine⟨[some (ns.map enN)],?_⟩;simp only[zqN,zi,zp,zc,zb,x4 h1,zg,if_true,zO h,xe,yE,xc,c,zR,yg,qQ,zpZ,qa,zvs,ea];by_cases hz:uD x s=0
   ·cases hb:ns.any (eqB s.name) with
    |true=>simp[hz]
    |false=>simp[hz,zah s.name ns hb]
   ·simp[hz]
  obtain⟨m,body⟩:=body;unfold qA;by_cases a1:uD x s≠0
  ·rw[Yze a1]at body ⊢;exact⟨m,by rw[zG body];unfold zl8;rw[Yze a1]⟩
  rw[Yzb a1]at body ⊢;by_cases a2:ns.any (eqB s.name)=true
  ·rw[Yze a2]at body ⊢;exact⟨m,by rw[zG body];rfl⟩
  rw[Yzb a2]at body ⊢;rw[zx body];exact ih (i+1) _ (zw h)
def qw(rs:Sl Zk)(d:Zj):Int:=if right d.low d.high≠0 then right d.low d.high else if 60<d.stops.els.length then 4 else qA ⟨rs,d.low,d.high⟩ d.stops.els []
theorem t74(k:Nat)(o:Org)(ho:o.ok)(d:Zj)(hd:d.ok):D (k+8) 74 [SA (enO o),SA (enV d)]=some (S1 (I6 (qw o.ranks d))):=by
 have hx:Place.ok ⟨o.ranks,d.low,d.high⟩:=⟨ho.rl,ho.ranks⟩;obtain⟨m,l⟩:=l74 k ⟨o.ranks,d.low,d.high⟩ hx d.stops hd.len hd.stops d.stops.els 0 [] rfl;have c:=t98 (k+6) d.low d.high;unfold enO enV;rw[D74];unfold P74 qw;simp only[c,zR,yg,zb,zg,zA,yP];by_cases h1:right d.low d.high=0
 ·by_cases h2:60<d.stops.els.length
  ·have h3:(60:Int)<(d.stops.els.length:Int):=by omega
   simp[h1,h2,h3]
  ·have h3:¬((60:Int)<(d.stops.els.length:Int)):=by omega
   simp only[List.map_nil]at l;rw[show (I6 0:DV)=I6 ((0:Nat):Int) from rfl,l];unfold zl8;by_cases h4:qA ⟨o.ranks,d.low,d.high⟩ d.stops.els []=0<;>simp[h1,h2,h3,h4]
 ·simp[h1]
def jS:List Zk→List ByteArray→Int
 | [],_=>0
 |x::r,ns=>if xh x≠0 then xh x else if ns.any (eqB x.name)=true then 9 else jS r (ns++[x.name])
theorem l54(k:Nat)(l:Sl Zk)(hl:l.els.length≤9223372036854775807)(hs:∀s∈l.els,zei s):∀(r:List Zk) (i:Nat) (ns:List ByteArray),l.els.drop i=r→
  ∃m,zB (zqU (D (k+5)) (I6 (l.els.length:Int)) (enL 6 enR l)) [I6 (i:Int)] [some (ns.map enN)]=some (zl8 1 (jS r ns) m):=by
 intro r
 induction r with
 |nil=>intro i ns h;refine⟨[some (ns.map enN)],zl ?_⟩;simp only[zqU,zi,zc,zb,yK (zH h),zg];rfl
 |cons s r ih=>
  intro i ns h;have h1:=zZ h;have ea:zf .add (I6 (i:Int)) (I6 1)=some (I6 ((i+1:Nat):Int)):=yf;have c:=t72 k s (hs s (Lz3 (zJ h)));simp only[enR]at c;have body:∃m,zqU (D (k+5)) (I6 (l.els.length:Int)) (enL 6 enR l) [I6 (i:Int)] [some (ns.map enN)] =
    some (if xh s≠0 then(.ret,[I6 (xh s)],m) else if ns.any (eqB s.name)=true then(.ret,[I6 9],m) else(.normal,[I6 ((i+1:Nat):Int)],[some ((ns++[s.name]).map enN)])):=by
   refine⟨[some (ns.map enN)],?_⟩;simp only[zqU,zi,zp,zc,zb,x4 h1,zg,if_true,zO h,enR,yE,xc,c,zR,yg,qQ,zpZ,qa,zvs,ea];by_cases hz:xh s=0
   ·cases hb:ns.any (eqB s.name) with
    |true=>simp[hz]
    |false=>simp[hz,zah s.name ns hb]
   ·simp[hz]
  obtain⟨m,body⟩:=body;unfold jS;by_cases a1:xh s≠0
  ·rw[Yze a1]at body ⊢;exact⟨m,by rw[zG body];unfold zl8;rw[Yze a1]⟩
  rw[Yzb a1]at body ⊢;by_cases a2:ns.any (eqB s.name)=true
  ·rw[Yze a2]at body ⊢;exact⟨m,by rw[zG body];rfl⟩
  rw[Yzb a2]at body ⊢;rw[zx body];exact ih (i+1) _ (zw h)
def zaK(rs:Sl Zk):List Zj→List ByteArray→Int
 | [],_=>0
 |d::r,ns=>if isName d.name=false then 8 else if ns.any (eqB d.name)=true then 9 else if qw rs d≠0 then qw rs d else zaK rs r (ns++[d.name])
def keyOf(d:Zj):Int×Int:=(d.low,d.high)
def grow{α:Type}(l:List α):Sl α:=match l with | []=>none|_=>some l
theorem zn{α:Type}(l:List α):(grow l).els=l:=by cases l<;>rfl
theorem yw{α:Type}(l:List α)(x:α):grow (l++[x])=some ((grow l).els++[x]):=by rw[zn];cases l<;>rfl
theorem zAN(k:Nat)(o:Org)(ho:o.ok)(hle:o.divs.els.length≤8):∀(r:List Zj) (i:Nat) (ns:List ByteArray),o.divs.els.drop i=r→
  ∃m,zB (zia (D (k+8)) (I6 (o.divs.els.length:Int)) (enL 5 enV o.divs) (St o.name) (enL 6 enR o.ranks) (enL 5 enC o.cpls)) [I6 (i:Int)] [ocL enK (grow ((o.divs.els.take i).map keyOf)),some (ns.map enN)] =
   some (if zaK o.ranks r ns≠0 then(.ret,[I6 (zaK o.ranks r ns)],m) else(.exit 4,[],[ocL enK (grow (o.divs.els.map keyOf)),m.headD none])):=by
 intro r
 induction r with
 |nil=>intro i ns h;refine⟨[some (ns.map enN)],zl ?_⟩;have:o.divs.els.take i=o.divs.els:=List.take_of_length_le (zH h);simp only[zia,zi,zc,zb,yK (zH h),zg,this];rfl
 |cons d r ih=>
  intro i ns h;have h1:=zZ h;have ea:zf .add (I6 (i:Int)) (I6 1)=some (I6 ((i+1:Nat):Int)):=yf;have c:=t74 k o ho d (ho.divs d (Lz3 (zJ h)));have cn:=t71 (k+6) d.name;simp only[enO,enV]at c;have hn:o.divs.els.take (i+1)=o.divs.els.take i++[d]:=by rw[Yyf,zJ h];rfl
  have hlen:((grow ((o.divs.els.take i).map keyOf)).els).length=i:=by rw[zn];simp;omega
  have ef:fits 16 ((grow ((o.divs.els.take i).map keyOf)).els.length+1)=true:=yM (by decide) (by omega);have body:∃m,zia (D (k+8)) (I6 (o.divs.els.length:Int)) (enL 5 enV o.divs) (St o.name) (enL 6 enR o.ranks) (enL 5 enC o.cpls) [I6 (i:Int)] [ocL enK (grow ((o.divs.els.take i).map keyOf)),some (ns.map enN)] =
    some (if isName d.name=false then(.ret,[I6 8],m) else if ns.any (eqB d.name)=true then(.ret,[I6 9],m) else if qw o.ranks d≠0 then(.ret,[I6 (qw o.ranks d)],m)
     else(.normal,[I6 ((i+1:Nat):Int)],[ocL enK (grow ((o.divs.els.take (i+1)).map keyOf)),some ((ns++[d.name]).map enN)])):=by
   rw[hn,Yya,Yzy,List.map_nil,yw];simp only[zia,zi,zp,zbE,zc,zb,x4 h1,zg,if_true,zO h,enV,yE,xc,c,cn,zR,yI,yg,qQ,zpZ,qa,zvs,ea,zY,Yzg,Yzx,ef,yF,zU];cases isName d.name with
   |false=>exact⟨[some (ns.map enN)],rfl⟩
   |true=>
    cases hb:ns.any (eqB d.name) with
    |true=>exact⟨[some (ns.map enN)],rfl⟩
    |false=>
     refine⟨[some ((ns++[d.name]).map enN)],?_⟩;have ee:=y0 (f:=enK) (grow ((o.divs.els.take i).map keyOf)) (keyOf d);rw[←ee];simp only[zah d.name ns hb,zb];by_cases hz:qw o.ranks d=0
     ·simp[hz];rfl
     ·simp[hz]
  obtain⟨m,body⟩:=body;unfold zaK;by_cases a0:isName d.name=false
  ·simp only[Yze a0]at body ⊢;exact⟨m,by rw[zG body];rfl⟩
  simp only[Yzb a0]at body ⊢;by_cases a1:ns.any (eqB d.name)=true
  ·simp only[Yze a1]at body ⊢;exact⟨m,by rw[zG body];rfl⟩
  simp only[Yzb a1]at body ⊢;by_cases a2:qw o.ranks d≠0
  ·simp only[Yze a2]at body ⊢;exact⟨m,by rw[zG body]⟩
  simp only[Yzb a2]at body ⊢;rw[zx body];exact ih (i+1) _ (zw h)
def vM(o:Org):Int:=
 if isName o.name=false then 8 else if 60<o.ranks.els.length then 4 else if jS o.ranks.els []≠0 then jS o.ranks.els [] else if o.divs.els.length=0 then 13 else if 8<o.divs.els.length then 4
 else if zaK o.ranks o.divs.els []≠0 then zaK o.ranks o.divs.els [] else zln (o.divs.els.map keyOf) o.cpls.els
theorem t54(k:Nat)(o:Org)(ho:o.ok):D (k+9) 54 [SA (enO o)]=some (S1 (I6 (vM o))):=by
 obtain⟨m,l⟩:=l54 (k+3) o.ranks ho.rl ho.ranks o.ranks.els 0 [] rfl;have cn:=t71 (k+6) o.name;unfold enO;rw[D54];unfold P54 vM;simp only[cn,zR,yI,yg,zb,zg,zA,yP,xF];cases isName o.name with
 |false=>rfl
 |true=>
  by_cases h1:60<o.ranks.els.length
  ·have h2:(60:Int)<(o.ranks.els.length:Int):=by omega
   simp[h1,h2]
  have h2:¬((60:Int)<(o.ranks.els.length:Int)):=by omega
  simp only[List.map_nil]at l;simp only[h1,h2,decide_false,Yzw,Yzc,if_false,Bool.true_eq_false];rw[show (I6 0:DV)=I6 ((0:Nat):Int) from rfl,l];unfold zl8;by_cases h3:jS o.ranks.els []≠0
  ·simp only[Yze h3,uj,zi]
  simp only[Yzb h3,zt,Yzj,Yza];by_cases h4:o.divs.els.length=0
  ·simp[h4]
  have h5:¬((o.divs.els.length:Int)=((0:Nat):Int)):=by omega
  by_cases h6:8<o.divs.els.length
  ·have h7:(8:Int)<(o.divs.els.length:Int):=by omega
   have h8:¬((o.divs.els.length:Int)=0):=by omega
   simp[h4,h6,h7,h8]
  have h7:¬((8:Int)<(o.divs.els.length:Int)):=by omega
  obtain⟨m2,l2⟩:=zAN k o ho (by omega) o.divs.els 0 [] rfl;simp only[List.take_zero,List.map_nil]at l2;rw[show ocL enK (grow ([]:List (Int×Int)))=none from rfl]at l2;have h9:((o.divs.els.length:Int)==0)=false:=by simpa using h4
  simp only[h4,h6,h7,h9,decide_false,Yzc,if_false];rw[l2];by_cases h8:zaK o.ranks o.divs.els []≠0
  ·simp only[Yze h8,uj,zi]
  have cc:=t75 (k+4) (grow (o.divs.els.map keyOf)) o.cpls (by rw[zn];simp;omega) ho.cl;rw[zn]at cc;simp only[Yzb h8,zt,zp,yX,Yzj,Yza,cc,zgx]
end Go.Proofs.Tryz.Kn
end
section
namespace Go.Proofs.Tryz.Kn
open Go Go.CE Go.PE
structure RPl where
 tone:Nat
 feet:Nat
 first:Int
 pipes:Nat
 w0:Nat
 w1:Nat
 w2:Nat
 w3:Nat
 w4:Nat
structure RPl.ok (r:RPl):Prop where
 tone:r.tone<256
 feet:r.feet<256
 f1:-128≤r.first
 f2:r.first≤127
 pipes:r.pipes<256
 w0:r.w0<256
 w1:r.w1<256
 w2:r.w2<256
 w3:r.w3<256
 w4:r.w4<256
def zge(r:RPl):List DV:=[U8 (r.tone:Int),U8 (r.feet:Int),.int .i8 r.first,U8 (r.pipes:Int),U8 (r.w0:Int),U8 (r.w1:Int),U8 (r.w2:Int),U8 (r.w3:Int),U8 (r.w4:Int)]
structure Pul where
 rank:Nat
 feet:Nat
 kind:Nat
 at_:Nat
structure Pul.ok (x:Pul):Prop where
 rank:x.rank<256
 feet:x.feet<256
 kind:x.kind<256
 at_:x.at_<256
def zjA(x:Pul):List DV:=[U8 (x.rank:Int),U8 (x.feet:Int),U8 (x.kind:Int),U8 (x.at_:Int)]
structure Boa where
 low:Nat
 keys:Nat
 pedal:Bool
 stops:Sl Pul
structure Boa.ok (b:Boa):Prop where
 low:b.low<256
 keys:b.keys<256
 len:b.stops.els.length≤9223372036854775807
 stops:∀x∈b.stops.els,x.ok
def kH(b:Boa):List DV:=[U8 (b.low:Int),U8 (b.keys:Int),Bo b.pedal,enL 4 zjA b.stops]
structure Lnk where
 src:Nat
 dst:Nat
 shift:Int
 thr:Bool
structure Lnk.ok (l:Lnk):Prop where
 src:l.src<256
 dst:l.dst<256
 s1:-128≤l.shift
 s2:l.shift≤127
def zm3(l:Lnk):List DV:=[U8 (l.src:Int),U8 (l.dst:Int),.int .i8 l.shift,Bo l.thr]
structure Pln where
 ranks:Sl RPl
 divs:Sl Boa
 cpls:Sl Lnk
structure Pln.ok (p:Pln):Prop where
 rl:p.ranks.els.length≤9223372036854775807
 ranks:∀x∈p.ranks.els,x.ok
 dl:p.divs.els.length≤9223372036854775807
 divs:∀x∈p.divs.els,x.ok
 cl:p.cpls.els.length≤9223372036854775807
 cpls:∀x∈p.cpls.els,x.ok
def zgf(p:Pln):List DV:=[enL 9 zge p.ranks,enL 4 kH p.divs,enL 4 zm3 p.cpls]
def zmY(l:List Boa):Bool:=l.all fun b=>decide (b.stops.els.length≤3)
def zdh(p:Pln):Bool:=decide (1≤p.ranks.els.length)&&decide (p.ranks.els.length≤3)&&decide (1≤p.divs.els.length)&&decide (p.divs.els.length≤3)&&decide (p.cpls.els.length≤3)&&zmY p.divs.els
theorem l8(l:Sl Boa)(hl:l.els.length≤9223372036854775807):∀(r:List Boa) (i:Nat),l.els.drop i=r→
  zB (zqJ (enL 4 kH l)) [I6 (i:Int)] []=some (if zmY r then(.exit 0,[],[]) else(.ret,[Bo false],[])):=by
 intro r
 induction r with
 |nil=>intro i h;refine zl ?_;simp only[zqJ,zi,zA,zc,zb,yK (zH h),zg];rfl
 |cons x r ih=>
  intro i h;have h1:=zZ h;have ea:zf .add (I6 (i:Int)) (I6 1)=some (I6 ((i+1:Nat):Int)):=yf;have body:zqJ (enL 4 kH l) [I6 (i:Int)] []=some (if x.stops.els.length≤3 then(.normal,[I6 ((i+1:Nat):Int)],[]) else(.ret,[Bo false],[])):=by
   simp only[zqJ,zi,zA,zc,zb,x4 h1,zg,if_true,zO h,kH,yE,xc,yP,ea];by_cases hz:x.stops.els.length≤3
   ·have:¬((3:Int)<(x.stops.els.length:Int)):=by omega
    simp[hz,this]
   ·have:(3:Int)<(x.stops.els.length:Int):=by omega
    simp[hz,this]
  by_cases hc:x.stops.els.length≤3
  ·rw[Yze hc]at body;rw[zx body,ih (i+1) (zw h)];simp[zmY,hc]
  ·rw[Yzb hc]at body;rw[zG body];simp[zmY,hc]
theorem t8(k:Nat)(p:Pln)(hp:p.ok):D (k+1) 8 [SA (zgf p)]=some (S1 (Bo (zdh p))):=by
 have l:=l8 p.divs hp.dl p.divs.els 0 rfl;unfold zgf;rw[D8];unfold P8 zdh;simp only[zA,zb,zc,yP,zg,Yzn];rw[show (I6 0:DV)=I6 ((0:Nat):Int) from rfl,l];by_cases h1:1≤p.ranks.els.length
 ·have g1:¬((p.ranks.els.length:Int)<1):=by omega
  by_cases h2:p.ranks.els.length≤3
  ·have g2:¬((3:Int)<(p.ranks.els.length:Int)):=by omega
   by_cases h3:1≤p.divs.els.length
   ·have g3:¬((p.divs.els.length:Int)<1):=by omega
    by_cases h4:p.divs.els.length≤3
    ·have g4:¬((3:Int)<(p.divs.els.length:Int)):=by omega
     by_cases h5:p.cpls.els.length≤3
     ·have g5:¬((3:Int)<(p.cpls.els.length:Int)):=by omega
      simp only[Yzb g1,Yzb g2,Yzb g3,Yzb g4,Yzb g5,decide_eq_true h1,decide_eq_true h2,decide_eq_true h3,decide_eq_true h4,decide_eq_true h5,Yz1];cases zmY p.divs.els<;>rfl
     ·have g5:(3:Int)<(p.cpls.els.length:Int):=by omega
      simp[g1,g2,g3,g4,g5,h5]
    ·have g4:(3:Int)<(p.divs.els.length:Int):=by omega
     simp[g1,g2,g3,g4,h4]
   ·have g3:(p.divs.els.length:Int)<1:=by omega
    simp[g1,g2,g3,h3]
  ·have g2:(3:Int)<(p.ranks.els.length:Int):=by omega
   simp[g1,g2,h2]
 ·have g1:(p.ranks.els.length:Int)<1:=by omega
  simp[g1,h1]
theorem zan{α:Type}(f:α→List DV)(l:List α)(i:Nat):vZ (some (l.map f)) i=(l[i]?).map f:=by show (l.map f)[i]? = _;rw[Lz6]
theorem t51(k:Nat)(n:Nat):D (k+1) 51 [S1 (U8 (n:Int))]=some (SA (enF (fA n))):=by
 rw[D51];unfold P51;have e:zf .rem (U8 (n:Int)) (U8 16)=some (U8 ((n % 16:Nat):Int)):=ziV (b:=16) (by decide);have i:y2 (some (feetA.map enF)) (U8 ((n % 16:Nat):Int))=some (n % 16):=wv (by rw[Yzq];exact YzO _ (by decide));have j:vZ (some (feetA.map enF)) (n % 16)=some (enF (fA n)):=by rw[zan,ztU];rfl
 rw[e,zb];refine (congrArg (za · _) i).trans ?_;rw[zb];refine (congrArg (za · _) j).trans ?_;rfl
theorem t52(k:Nat)(n:Nat):D (k+1) 52 [S1 (U8 (n:Int))]=some (SA (enF (fB n))):=by
 rw[D52];unfold P52;have e:zf .rem (U8 (n:Int)) (U8 6)=some (U8 ((n % 6:Nat):Int)):=ziV (b:=6) (by decide);have i:y2 (some (feetB.map enF)) (U8 ((n % 6:Nat):Int))=some (n % 6):=wv (by rw[Yzq];exact YzO _ (by decide));have j:vZ (some (feetB.map enF)) (n % 6)=some (enF (fB n)):=by rw[zan,ztS];rfl
 rw[e,zb];refine (congrArg (za · _) i).trans ?_;rw[zb];refine (congrArg (za · _) j).trans ?_;rfl
def pre(c:UInt8)(i:Nat):ByteArray:=⟨#[c]⟩++zcE [48+(i:Int)] ByteArray.empty
theorem zfq(c:UInt8)(i:Nat):zos .add (.str ⟨#[c]⟩) (.str (zcE [48+(i:Int)] ByteArray.empty))=some (St (pre c i)):=rfl
theorem zce(i:Nat):zoz (.lst 1 [[U8 (48+(i:Int))]])=some (St (zcE [48+(i:Int)] ByteArray.empty)):=rfl
def zlN:Nat→ByteArray
 |0=>⟨#[79,112,101,110]⟩
 |1=>⟨#[70,108,117,116,101]⟩
 |_=>⟨#[82,101,101,100]⟩
def wAt(r:RPl):Nat→Nat
 |0=>r.w0
 |1=>r.w1
 |2=>r.w2
 |3=>r.w3
 |_=>r.w4
def jI(r:RPl)(n:Nat):List Int:=(List.range n).map fun k=>((wAt r (k % 5):Nat):Int)
theorem zdZ(r:RPl)(n:Nat):jI r (n+1)=jI r n++[((wAt r (n % 5):Nat):Int)]:=by unfold jI;rw[List.range_succ,Yya];rfl
theorem qZ(r:RPl)(n:Nat):(jI r n).length=n:=by simp[jI]
theorem ztm{r:RPl}(h:r.ok)(i:Nat):wAt r i<256:=by
 unfold wAt;split
 ·exact h.w0
 ·exact h.w1
 ·exact h.w2
 ·exact h.w3
 ·exact h.w4
def zsn(i:Nat)(r:RPl):Zk:=⟨pre 82 (i % 10),zlN (r.tone % 3),(fA r.feet).1,(fA r.feet).2,r.first,some (jI r (1+r.pipes % 25))⟩
theorem l26(r:RPl)(hr:r.ok)(c0 c1 c2 c3 c4:DV):∀(m j:Nat),j+m=1+r.pipes % 25→
  zB (zij (U8 (r.pipes:Int)) (U8 (r.w0:Int)) (U8 (r.w1:Int)) (U8 (r.w2:Int)) (U8 (r.w3:Int)) (U8 (r.w4:Int))) [I6 (j:Int),c0,c1,c2,c3,c4] [ocL enW (grow (jI r j))] =
   some (.exit 0,[c0,c1,c2,c3,c4],[ocL enW (grow (jI r (1+r.pipes % 25)))]):=by
 have e1:zf .rem (U8 (r.pipes:Int)) (U8 25)=some (U8 ((r.pipes % 25:Nat):Int)):=ziV (b:=25) (by decide);have hm:r.pipes % 25<25:=YzO _ (by omega);have e2:yi .i64 (U8 ((r.pipes % 25:Nat):Int))=some (I6 ((r.pipes % 25:Nat):Int)):=qx;have e3:zf .add (I6 1) (I6 ((r.pipes % 25:Nat):Int))=some (I6 ((1+r.pipes % 25:Nat):Int)):=by rw[show ((1+r.pipes % 25:Nat):Int)=1+((r.pipes % 25:Nat):Int) by omega];exact yf
 intro m
 induction m with
 |zero=>
  intro j hj;refine zl ?_;have hj':j=1+r.pipes % 25:=by omega
  subst hj';have:decide (((1+r.pipes % 25:Nat):Int)<((1+r.pipes % 25:Nat):Int))=false:=yK (by omega);simp only[zij,e1,e2,e3,zb,zi,yU,zc,this,zg];rfl
 |succ m ih=>
  intro j hj;have hlt:decide ((j:Int)<((1+r.pipes % 25:Nat):Int))=true:=x4 (by omega);have ea:zf .add (I6 (j:Int)) (I6 1)=some (I6 ((j+1:Nat):Int)):=yf;have eb:zf .rem (I6 (j:Int)) (I6 5)=some (I6 ((j % 5:Nat):Int)):=ziV (b:=5) (by decide);have h5:j % 5<5:=YzO _ (by omega);have en:vu 5 (I6 ((j % 5:Nat):Int))=some (j % 5):=zcc h5;have hw:=ztm hr (j % 5);have ew:atD [U8 (r.w0:Int),U8 (r.w1:Int),U8 (r.w2:Int),U8 (r.w3:Int),U8 (r.w4:Int)] (j % 5)=U8 ((wAt r (j % 5):Nat):Int):=by
   have:j % 5=0∨j % 5=1∨j % 5=2∨j % 5=3∨j % 5=4:=by omega
   rcases this with h|h|h|h|h<;>rw[h]<;>rfl
  have ec:yi .i64 (U8 ((wAt r (j % 5):Nat):Int))=some (I6 ((wAt r (j % 5):Nat):Int)):=qx;have ef:fits 8 ((grow (jI r j)).els.length+1)=true:=yM (by decide) (by rw[zn,qZ];omega);have body:zij (U8 (r.pipes:Int)) (U8 (r.w0:Int)) (U8 (r.w1:Int)) (U8 (r.w2:Int)) (U8 (r.w3:Int)) (U8 (r.w4:Int)) [I6 (j:Int),c0,c1,c2,c3,c4] [ocL enW (grow (jI r j))] =
    some (.normal,[I6 ((j+1:Nat):Int),c0,c1,c2,c3,c4],[ocL enW (grow (jI r (j+1)))]):=by
   rw[zdZ,yw];simp only[zij,e1,e2,e3,zb,zi,yU,zc,hlt,zg,if_true,eb,en,ew,ec,zp,zY,Yzg,Yzx,ef,yF,ea,zU];rw[y0 (f:=enW)]
  rw[zx body,ih (j+1) (by omega)]
theorem t26(k:Nat)(i:Nat)(hi:i<10)(r:RPl)(hr:r.ok):D (k+2) 26 [SA (zge r),S1 (I6 (i:Int))]=some (SA (enR (zsn i r))):=by
 unfold zge;rw[D26];unfold P26;have e1:zf .rem (I6 (i:Int)) (I6 10)=some (I6 ((i % 10:Nat):Int)):=ziV (b:=10) (by decide);have h10:i % 10<10:=YzO _ (by decide);have e2:zf .add (I6 48) (I6 ((i % 10:Nat):Int))=some (I6 (48+((i % 10:Nat):Int))):=yf;have e3:yi .u8 (I6 (48+((i % 10:Nat):Int)))=some (U8 (48+((i % 10:Nat):Int))):=by show some (DV.int .u8 (wI .u8 (48+((i % 10:Nat):Int))))=_;rw[zri];congr 2;omega
 have e4:zf .rem (U8 (r.tone:Int)) (U8 3)=some (U8 ((r.tone % 3:Nat):Int)):=ziV (b:=3) (by decide);have e5:yi .i64 (.int .i8 r.first)=some (I6 r.first):=by
  have:=hr.f1;have:=hr.f2
  exact qx
 have l:=l26 r hr (St (pre 82 (i % 10))) (St (zlN (r.tone % 3))) (I6 (fA r.feet).1) (I6 (fA r.feet).2) (I6 r.first) (1+r.pipes % 25) 0 (by omega);rw[show ocL enW (grow (jI r 0))=none from rfl]at l;have hg:grow (jI r (1+r.pipes % 25))=some (jI r (1+r.pipes % 25)):=by rw[show 1+r.pipes % 25=r.pipes % 25+1 by omega,zdZ,yw,zn]
 rw[hg]at l;have h3:r.tone % 3=0∨r.tone % 3=1∨r.tone % 3=2:=by omega
 have et:za (y2 (some [[(.str ⟨#[79,112,101,110]⟩)],[(.str ⟨#[70,108,117,116,101]⟩)],[(.str ⟨#[82,101,101,100]⟩)]]) (U8 ((r.tone % 3:Nat):Int))) (fun n6=>vZ (some [[(.str ⟨#[79,112,101,110]⟩)],[(.str ⟨#[70,108,117,116,101]⟩)],[(.str ⟨#[82,101,101,100]⟩)]]) n6)=some [St (zlN (r.tone % 3))]:=by rcases h3 with h|h|h<;>rw[h]<;>rfl
 have eu:∀{β:Type} (K:List DV→Option β),za (y2 (some [[(.str ⟨#[79,112,101,110]⟩)],[(.str ⟨#[70,108,117,116,101]⟩)],[(.str ⟨#[82,101,101,100]⟩)]]) (U8 ((r.tone % 3:Nat):Int))) (fun n6=>za (vZ (some [[(.str ⟨#[79,112,101,110]⟩)],[(.str ⟨#[70,108,117,116,101]⟩)],[(.str ⟨#[82,101,101,100]⟩)]]) n6) K)=K [St (zlN (r.tone % 3))]:=by intro β K;rcases h3 with h|h|h<;>rw[h]<;>rfl
 have c:=t51 k r.feet;simp only[e1,e2,e3,e4,zb,zce,zfq];rw[eu];rw[c];unfold enF;rw[zwv (show[I6 (fA r.feet).1,I6 (fA r.feet).2].length=2 from rfl)];simp only[e5,zb,yE,xc];rw[show (I6 0:DV)=I6 ((0:Nat):Int) from rfl,l];rfl
end Go.Proofs.Tryz.Kn
end
section
namespace Go.Proofs.Tryz.Kn
open Go Go.CE Go.PE
theorem bT2{β:Type}(a b:DV)(K:List DS→Option β):bT [none,none] (some (.tup [.one a,.one b])) K=K [.one a,.one b]:=rfl
def zef(rs:List Zk)(i:Nat):Zk:=(rs[i]?).getD ⟨ByteArray.empty,ByteArray.empty,8,1,0,none⟩
theorem zfg{rs:List Zk}{i:Nat}(h:i<rs.length):rs[i]? = some (zef rs i):=by unfold zef;rw[Lz5 h];rfl
theorem zad{rs:List Zk}{i:Nat}(h:i<rs.length):zef rs i∈rs:=Lz3 (zfg h)
def yZ(low high:Int)(n:Int)(sh:Int)(m:Int)(sh2:Int)(at_:Int):Nat→List Seg
 |2=>[⟨low,high,some [⟨n,sh⟩,⟨n,sh+7⟩]⟩]
 |3=>if low<at_ then[⟨low,at_-1,some [⟨n,sh⟩]⟩,⟨at_,high,some [⟨m,sh2⟩]⟩] else[⟨at_,high,some [⟨m,sh2⟩]⟩]
 |4=>if low<at_ then[⟨low,at_-1,some [⟨n,sh⟩]⟩,⟨at_,high,some [⟨n,sh-12⟩]⟩] else[⟨at_,high,some [⟨n,sh-12⟩]⟩]
 |5=>[⟨at_,high,some [⟨n,sh⟩]⟩]
 |_=>[⟨low,high,some [⟨n,sh⟩]⟩]
def rkF(r:Zk):Int×Int:=(r.num,r.den)
def vz(rs:List Zk)(low high:Int)(i:Nat)(x:Pul):Zr:=
 ⟨pre 83 i, (fB x.feet).1, (fB x.feet).2, some (yZ low high ((x.rank % rs.length : Nat) : Int) (shf (fB x.feet) (rkF (zef rs (x.rank % rs.length)))) (((x.rank % rs.length + 1) % rs.length : Nat) : Int)
  (shf (fB x.feet) (rkF (zef rs ((x.rank % rs.length+1) % rs.length)))) (low+((x.at_:Int).tmod (high-low+1))) (x.kind % 6))⟩
theorem t27(k:Nat)(rs:List Zk)(hl:0<rs.length)(hl3:rs.length≤1000)(hf:∀r∈rs,rkF r∈feetA)(low high:Int)(h0:0≤low)(h1:low≤high)(h2:high≤1000)(x:Pul)(hx:x.ok)(i:Nat)(hi:i<10):
  D (k+6) 27 [S1 (enL 6 enR (some rs)),SA [I6 low,I6 high],SA (zjA x),S1 (I6 (i:Int))]=some (SA (xe (vz rs low high i x))):=by
 unfold zjA;rw[D27];unfold P27 vz;have hn:x.rank % rs.length<rs.length:=YzO _ hl;have hm:(x.rank % rs.length+1) % rs.length<rs.length:=YzO _ hl;generalize hN:x.rank % rs.length=n at hn hm;generalize hM:(n+1) % rs.length=m at hm;have e0:yi .i64 (U8 (x.rank:Int))=some (I6 (x.rank:Int)):=by have:=hx.rank;exact qx
 have e1:zf .rem (I6 (x.rank:Int)) (I6 (rs.length:Int))=some (I6 (n:Int)):=by rw[←hN];exact ziV (by omega)
 have e2:zf .add (I6 48) (I6 (i:Int))=some (I6 (48+(i:Int))):=yf;have e3:yi .u8 (I6 (48+(i:Int)))=some (U8 (48+(i:Int))):=by show some (DV.int .u8 (wI .u8 (48+(i:Int))))=_;rw[zri];congr 2;omega
 have c1:=t52 (k+4) x.feet;have ix:yy 6 (enL 6 enR (some rs)) (I6 (n:Int))=some (enR (zef rs n)):=by rw[yb,yn,zfg hn];rfl
 have ix2:yy 6 (enL 6 enR (some rs)) (I6 (m:Int))=some (enR (zef rs m)):=by rw[yb,yn,zfg hm];rfl
 have s1:=t53 k (fB x.feet) (rkF (zef rs n)) (zeM _) (hf _ (zad hn));have s2:=t53 k (fB x.feet) (rkF (zef rs m)) (zeM _) (hf _ (zad hm));have b1:=znP (fB x.feet) (rkF (zef rs n)) (zeM _) (hf _ (zad hn));generalize shf (fB x.feet) (rkF (zef rs n))=sh at s1 b1 ⊢;generalize shf (fB x.feet) (rkF (zef rs m))=sh2 at s2 ⊢;unfold rkF enF at s1 s2;unfold enF at c1;generalize (fB x.feet).1=u at c1 s1 s2 ⊢;generalize (fB x.feet).2=v at c1 s1 s2 ⊢;simp only at s1 s2;have e4:yi .i64 (U8 (x.at_:Int))=some (I6 (x.at_:Int)):=by have:=hx.at_;exact qx
 have e5:zf .sub (I6 high) (I6 low)=some (I6 (high-low)):=zbW;have e6:zf .add (I6 (high-low)) (I6 1)=some (I6 (high-low+1)):=yf;have e7:zf .rem (I6 (x.at_:Int)) (I6 (high-low+1))=some (I6 ((x.at_:Int).tmod (high-low+1))):=zcd _ _ _ (by omega);have hq:0≤(x.at_:Int).tmod (high-low+1)∧(x.at_:Int).tmod (high-low+1)<high-low+1:=⟨Int.tmod_nonneg _ (by omega),Int.tmod_lt_of_pos _ (by omega)⟩;generalize (x.at_:Int).tmod (high-low+1)=q at e7 hq ⊢;have e8:zf .add (I6 low) (I6 q)=some (I6 (low+q)):=yf;have e9:zf .rem (U8 (x.kind:Int)) (U8 6)=some (U8 ((x.kind % 6:Nat):Int)):=ziV (b:=6) (by decide);have e10:zf .add (I6 sh) (I6 7)=some (I6 (sh+7)):=yf;have e11:zf .sub (I6 sh) (I6 12)=some (I6 (sh-12)):=zbW;have e12:zf .add (I6 (n:Int)) (I6 1)=some (I6 ((n+1:Nat):Int)):=yf;have e13:zf .rem (I6 ((n+1:Nat):Int)) (I6 (rs.length:Int))=some (I6 (m:Int)):=by rw[←hM];exact ziV (by omega)
 have e14:zf .sub (I6 (low+q)) (I6 1)=some (I6 (low+q-1)):=zbW;have f1:fits 40 1=true:=by decide
 have f2:fits 40 2=true:=by decide
 have hk:x.kind % 6<6:=YzO _ (by decide);generalize x.kind % 6=kd at e9 hk ⊢;have b2:∀{β:Type} (a b:DV) (K:List DV→Option β),bA 2 (some (SA [a,b])) K=K [a,b]:=fun _ _ _=>rfl;simp only[e0,zb,zA,yn,e1,e2,e3,zce,zfq,c1,b2,yE,xc,ix,enR,s1,bT2,zeR,zbi,e4,e5,e6,e7,e8,e9,xF,yP,zg,e10,e11,e12,e13,ix2,s2,e14];have hkd:kd=0∨kd=1∨kd=2∨kd=3∨kd=4∨kd=5:=by omega
 rcases hkd with h|h|h|h|h|h<;>subst h
 ·rfl
 ·rfl
 ·rfl
 ·by_cases hb:low<low+q
  ·simp only[yZ,Yze hb,decide_eq_true hb];simp[f1,f2];rfl
  ·simp only[yZ,Yzb hb,decide_eq_false hb];simp[f1];rfl
 ·by_cases hb:low<low+q
  ·simp only[yZ,Yze hb,decide_eq_true hb];simp[f1,f2];rfl
  ·simp only[yZ,Yzb hb,decide_eq_false hb];simp[f1];rfl
 ·rfl
def wz:Nat→List RPl→List Zk
 |_,[]=>[]
 |i,r::l=>zsn i r::wz (i+1) l
def wn(rs:List Zk)(low high:Int):Nat→List Pul→List Zr
 |_,[]=>[]
 |i,x::l=>vz rs low high i x::wn rs low high (i+1) l
def zdM(b:Boa):Int:=36+((b.low % 12:Nat):Int)
def ki(b:Boa):Int:=zdM b+((b.keys % 9:Nat):Int)
def zdT(rs:List Zk)(i:Nat)(b:Boa):Zj:=⟨pre 68 i,b.pedal,zdM b,ki b,grow (wn rs (zdM b) (ki b) 0 b.stops.els)⟩
def vA(rs:List Zk):Nat→List Boa→List Zj
 |_,[]=>[]
 |i,b::l=>zdT rs i b::vA rs (i+1) l
def qm(n:Nat)(i:Nat)(l:Lnk):Cpl:=
 ⟨pre 67 i,((l.src % n:Nat):Int),((l.dst % n:Nat):Int),if ((l.src % n:Nat):Int)=((l.dst % n:Nat):Int)∧l.shift.tmod 25=0 then 12 else l.shift.tmod 25,l.thr⟩
def ke(n:Nat):Nat→List Lnk→List Cpl
 |_,[]=>[]
 |i,c::l=>qm n i c::ke n (i+1) l
def zel:ByteArray:=⟨#[79,114,103,97,110]⟩
def za7(p:Pln):Org:=⟨zel,grow (wz 0 p.ranks.els),grow (vA (wz 0 p.ranks.els) 0 p.divs.els),grow (ke p.divs.els.length 0 p.cpls.els)⟩
theorem uR:∀(l:List RPl) (i:Nat),(wz i l).length=l.length
 | [],_=>rfl
 |_::l,i=>by simp[wz,uR l]
theorem za6:∀(l:List RPl) (i:Nat),∀r∈wz i l,rkF r∈feetA
 | [],_,_,h=>by cases h
 |x::l,i,r,h=>by
  rcases YzA.1 h with rfl|h
  ·exact ztT x.feet
  ·exact za6 l _ r h
theorem zDn(k:Nat)(l:Sl RPl)(hl:l.els.length≤3)(hr:∀x∈l.els,x.ok)(nm:DV):∀(r:List RPl) (i:Nat) (acc:List Zk),l.els.drop i=r→acc.length=i→
  zB (zzs (D (k+2)) (enL 9 zge l)) [I6 (i:Int),nm] [ocL enR (grow acc),none,none]=some (.exit 0,[nm],[ocL enR (grow (acc++wz i r)),none,none]):=by
 intro r
 induction r with
 |nil=>intro i acc h _;refine zl ?_;simp only[zzs,zi,yU,zp,zbE,zA,zc,zb,yK (zH h),zg,wz,YzE];rfl
 |cons x r ih=>
  intro i acc h ha;have h1:=zZ h;have ea:zf .add (I6 (i:Int)) (I6 1)=some (I6 ((i+1:Nat):Int)):=yf;have c:=t26 k i (by omega) x (hr x (Lz3 (zJ h)));have ef:fits 80 ((grow acc).els.length+1)=true:=yM (by decide) (by rw[zn];omega);have b6:∀{β:Type} (K:List DV→Option β),bA 6 (some (SA (enR (zsn i x)))) K=K (enR (zsn i x)):=fun _=>rfl;have body:zzs (D (k+2)) (enL 9 zge l) [I6 (i:Int),nm] [ocL enR (grow acc),none,none]=some (.normal,[I6 ((i+1:Nat):Int),nm],[ocL enR (grow (acc++[zsn i x])),none,none]):=by rw[yw];unfold zge at c;simp only[zzs,zi,yU,zp,zbE,zA,zc,zb,x4 h1,zg,if_true,zO h,zge,yE,xc,c,b6,zY,Yzg,Yzx,ef,yF,ea,zU];rw[←y0 (f:=enR)];rfl
  rw[zx body,ih (i+1) _ (zw h) (by simp[ha])];simp[wz]
theorem zAO(k:Nat)(rs:List Zk)(hl:0<rs.length)(hl3:rs.length≤1000)(hf:∀r∈rs,rkF r∈feetA)(b:Boa)(hb:b.ok)(h3:b.stops.els.length≤3)(low high:Int)(h0:0≤low)(h1:low≤high)(h2:high≤1000)(d0 d1 c0 c1:DV):
  ∀(r:List Pul) (i:Nat) (acc:List Zr),b.stops.els.drop i=r→acc.length=i→
  zB (zqH (D (k+6)) (kH b) [d0,d1,enL 6 enR (some rs)]) [I6 (i:Int),c0,c1,I6 low,I6 high] [ocL xe (grow acc)]=some (.exit 4,[c0,c1,I6 low,I6 high],[ocL xe (grow (acc++wn rs low high i r))]):=by
 intro r
 induction r with
 |nil=>intro i acc h _;refine zl ?_;simp only[zqH,kH,yE,xc,zi,yU,zp,zA,zc,zb,yK (zH h),zg,wn,YzE];rfl
 |cons x r ih=>
  intro i acc h ha;have hlt:=zZ h;have ea:zf .add (I6 (i:Int)) (I6 1)=some (I6 ((i+1:Nat):Int)):=yf;have c:=t27 k rs hl hl3 hf low high h0 h1 h2 x (hb.stops x (Lz3 (zJ h))) i (by omega);have ef:fits 56 ((grow acc).els.length+1)=true:=yM (by decide) (by rw[zn];omega);have b4:∀{β:Type} (K:List DV→Option β),bA 4 (some (SA (xe (vz rs low high i x)))) K=K (xe (vz rs low high i x)):=fun _=>rfl;have body:zqH (D (k+6)) (kH b) [d0,d1,enL 6 enR (some rs)] [I6 (i:Int),c0,c1,I6 low,I6 high] [ocL xe (grow acc)]=some (.normal,[I6 ((i+1:Nat):Int),c0,c1,I6 low,I6 high],[ocL xe (grow (acc++[vz rs low high i x]))]):=by rw[yw];unfold zjA at c;simp only[zqH,kH,zi,yU,zp,zA,zc,zb,x4 hlt,zg,if_true,yE,xc,zO h,zjA,c,b4,zY,Yzg,Yzx,ef,yF,ea,zU];rw[←y0 (f:=xe)];rfl
  rw[zx body,ih (i+1) _ (zw h) (by simp[ha])];simp[wn]
theorem zc3(b:Boa):36≤zdM b∧zdM b≤47:=by unfold zdM;omega
theorem zat(b:Boa):zdM b≤ki b∧ki b≤zdM b+8:=by unfold ki;omega
theorem zAP(k:Nat)(rs:List Zk)(hl:0<rs.length)(hl3:rs.length≤1000)(hf:∀r∈rs,rkF r∈feetA)(l:Sl Boa)(hll:l.els.length≤3)(hb:∀b∈l.els,b.ok)(h3:∀b∈l.els,b.stops.els.length≤3)(nm:DV):
  ∀(r:List Boa) (i:Nat) (acc:List Zj),l.els.drop i=r→acc.length=i→
  zB (zqI (D (k+6)) (enL 4 kH l)) [I6 (i:Int),nm,enL 6 enR (some rs)] [ocL enV (grow acc),none]=some (.exit 2,[nm,enL 6 enR (some rs)],[ocL enV (grow (acc++vA rs i r)),none]):=by
 intro r
 induction r with
 |nil=>intro i acc h _;refine zl ?_;simp only[zqI,zi,yU,zp,zbE,zA,zc,zb,yK (zH h),zg,vA,YzE];rfl
 |cons b r ih=>
  intro i acc h ha;have hlt:=zZ h;have hmem:=Lz3 (zJ h);have ea:zf .add (I6 (i:Int)) (I6 1)=some (I6 ((i+1:Nat):Int)):=yf;have hlow:=zc3 b;have hhigh:=zat b;have e1:zf .rem (U8 (b.low:Int)) (U8 12)=some (U8 ((b.low % 12:Nat):Int)):=ziV (b:=12) (by decide);have e2:yi .i64 (U8 ((b.low % 12:Nat):Int))=some (I6 ((b.low % 12:Nat):Int)):=qx;have e3:zf .add (I6 36) (I6 ((b.low % 12:Nat):Int))=some (I6 (zdM b)):=yf;have e4:zf .add (I6 48) (I6 (i:Int))=some (I6 (48+(i:Int))):=yf;have e5:yi .u8 (I6 (48+(i:Int)))=some (U8 (48+(i:Int))):=by show some (DV.int .u8 (wI .u8 (48+(i:Int))))=_;rw[zri];congr 2;omega
  have e6:zf .rem (U8 (b.keys:Int)) (U8 9)=some (U8 ((b.keys % 9:Nat):Int)):=ziV (b:=9) (by decide);have e7:yi .i64 (U8 ((b.keys % 9:Nat):Int))=some (I6 ((b.keys % 9:Nat):Int)):=qx;have e8:zf .add (I6 (zdM b)) (I6 ((b.keys % 9:Nat):Int))=some (I6 (ki b)):=by have:zf .add (I6 (zdM b)) (I6 ((b.keys % 9:Nat):Int))=some (I6 (zdM b+((b.keys % 9:Nat):Int))):=yf;exact this
  have ll:=zAO k rs hl hl3 hf b (hb b hmem) (h3 b hmem) (zdM b) (ki b) (by omega) (by omega) (by omega) (I6 (i:Int)) nm (St (pre 68 i)) (Bo b.pedal) b.stops.els 0 [] rfl rfl;rw[show ocL xe (grow ([]:List Zr))=none from rfl,show (I6 ((0:Nat):Int):DV)=I6 0 from rfl,YzK]at ll;have ef:fits 64 ((grow acc).els.length+1)=true:=yM (by decide) (by rw[zn];omega);have body:zqI (D (k+6)) (enL 4 kH l) [I6 (i:Int),nm,enL 6 enR (some rs)] [ocL enV (grow acc),none]=some (.normal,[I6 ((i+1:Nat):Int),nm,enL 6 enR (some rs)],[ocL enV (grow (acc++[zdT rs i b])),none]):=by rw[yw];have ix:yy 4 (enL 4 kH l) (I6 (i:Int))=some (kH b):=zO h _;have q0:atD (kH b) 0=U8 (b.low:Int):=rfl;have q1:atD (kH b) 1=U8 (b.keys:Int):=rfl;have q2:atD (kH b) 2=Bo b.pedal:=rfl;simp only[zqI,zi,yU,zp,zbE,zA,zc,zb,x4 hlt,zg,if_true,ix,q0,q1,q2,e1,e2,e3,e4,e5,zce,zfq,e6,e7,e8,ll,zt,Yzj,Yza,zY,Yzg,Yzx,ef,yF,ea,zU,yX];rw[←y0 (f:=enV)];rfl
  rw[zx body,ih (i+1) _ (zw h) (by simp[ha])];simp[vA]
theorem zAM(n:Nat)(hn:0<n)(hn3:n≤1000)(l:Sl Lnk)(hll:l.els.length≤3)(hb:∀b∈l.els,b.ok)(nm rk:DV)(dv:OC):
  ∀(r:List Lnk) (i:Nat) (acc:List Cpl),l.els.drop i=r→acc.length=i→
  zB (zqG (enL 4 zm3 l) (I6 (n:Int))) [I6 (i:Int),nm,rk] [dv,ocL enC (grow acc)]=some (.exit 6,[nm,rk],[dv,ocL enC (grow (acc++ke n i r))]):=by
 intro r
 induction r with
 |nil=>intro i acc h _;refine zl ?_;simp only[zqG,zi,yU,zp,zbE,zA,zc,zb,yK (zH h),zg,ke,YzE];rfl
 |cons b r ih=>
  intro i acc h ha;have hlt:=zZ h;have hbb:=hb b (Lz3 (zJ h));have ea:zf .add (I6 (i:Int)) (I6 1)=some (I6 ((i+1:Nat):Int)):=yf;have e4:zf .add (I6 48) (I6 (i:Int))=some (I6 (48+(i:Int))):=yf;have e5:yi .u8 (I6 (48+(i:Int)))=some (U8 (48+(i:Int))):=by show some (DV.int .u8 (wI .u8 (48+(i:Int))))=_;rw[zri];congr 2;omega
  have g1:yi .i64 (U8 (b.src:Int))=some (I6 (b.src:Int)):=by have:=hbb.src;exact qx
  have g2:zf .rem (I6 (b.src:Int)) (I6 (n:Int))=some (I6 ((b.src % n:Nat):Int)):=ziV (by omega);have g3:yi .i64 (U8 (b.dst:Int))=some (I6 (b.dst:Int)):=by have:=hbb.dst;exact qx
  have g4:zf .rem (I6 (b.dst:Int)) (I6 (n:Int))=some (I6 ((b.dst % n:Nat):Int)):=ziV (by omega);have g5:yi .i64 (.int .i8 b.shift)=some (I6 b.shift):=by have:=hbb.s1;have:=hbb.s2;exact qx
  have g6:zf .rem (I6 b.shift) (I6 25)=some (I6 (b.shift.tmod 25)):=zcd _ _ _ (by decide);have ef:fits 48 ((grow acc).els.length+1)=true:=yM (by decide) (by rw[zn];omega);have body:zqG (enL 4 zm3 l) (I6 (n:Int)) [I6 (i:Int),nm,rk] [dv,ocL enC (grow acc)]=some (.normal,[I6 ((i+1:Nat):Int),nm,rk],[dv,ocL enC (grow (acc++[qm n i b]))]):=by
   rw[yw,←y0 (f:=enC)];simp only[zqG,zi,yU,zp,zbE,zA,zc,zb,x4 hlt,zg,if_true,zO h,zm3,yE,xc,e4,e5,zce,zfq,g1,g2,g3,g4,g5,g6,xF,zY,Yzg,Yzx,ef,yF,ea,zU];unfold qm enC;by_cases h1:((b.src % n:Nat):Int)=((b.dst % n:Nat):Int)
   ·by_cases h2:b.shift.tmod 25=0
    ·rw[Yze (by simpa using h1),Yze (by simpa using h2),Yze ⟨h1,h2⟩]
    ·rw[Yze (by simpa using h1),Yzb (by simpa using h2),Yzb (fun hh=>h2 hh.2)]
   ·rw[Yzb (by simpa using h1),Yzb (fun hh=>h1 hh.1)]
  rw[zx body,ih (i+1) _ (zw h) (by simp[ha])];simp[ke]
theorem uW{p:Pln}(h:zdh p=true):1≤p.ranks.els.length∧p.ranks.els.length≤3∧1≤p.divs.els.length∧p.divs.els.length≤3∧p.cpls.els.length≤3∧∀b∈p.divs.els,b.stops.els.length≤3:=by unfold zdh zmY at h;simp only[LzC,Yzn,Yz3]at h;obtain⟨⟨⟨⟨⟨a,b⟩,c⟩,d⟩,e⟩,f⟩:=h;exact⟨a,b,c,d,e,f⟩
theorem zf5{α:Type}{l:List α}(h:0<l.length):grow l=some l:=by cases l with|nil=>simp at h|cons _ _=>rfl
theorem t9(k:Nat)(p:Pln)(hp:p.ok)(hf:zdh p=true):D (k+7) 9 [SA (zgf p)]=some (SA (enO (za7 p))):=by obtain⟨f1,f2,f3,f4,f5,f6⟩:=uW hf;have hlen:(wz 0 p.ranks.els).length=p.ranks.els.length:=uR _ _;have l2:=zDn (k+4) p.ranks f2 hp.ranks (St zel) p.ranks.els 0 [] rfl rfl;have l12:=zAP k (wz 0 p.ranks.els) (by omega) (by omega) (za6 _ _) p.divs f4 hp.divs f6 (St zel) p.divs.els 0 [] rfl rfl;have l43:=zAM p.divs.els.length (by omega) (by omega) p.cpls f5 hp.cpls (St zel) (enL 6 enR (some (wz 0 p.ranks.els))) (ocL enV (grow (vA (wz 0 p.ranks.els) 0 p.divs.els))) p.cpls.els 0 [] rfl rfl;rw[show ocL enR (grow ([]:List Zk))=none from rfl,show (I6 ((0:Nat):Int):DV)=I6 0 from rfl,YzK]at l2;rw[show ocL enV (grow ([]:List Zj))=none from rfl,show (I6 ((0:Nat):Int):DV)=I6 0 from rfl,YzK]at l12;rw[show ocL enC (grow ([]:List Cpl))=none from rfl,show (I6 ((0:Nat):Int):DV)=I6 0 from rfl,YzK]at l43;have hg:grow (wz 0 p.ranks.els)=some (wz 0 p.ranks.els):=zf5 (by omega);unfold zgf;rw[D9];unfold P9 za7 enO;unfold zel at l2 l12 l43;rw[hg]at l2 ⊢;simp only[l2,zt,Yzj,Yza,zi,yU,zp,zbE,yX,l12,zA,zb,l43];rfl
end Go.Proofs.Tryz.Kn
end
section
namespace Go.Proofs.Tryz.Kn
open Go Go.CE Go.PE
theorem zsc:([82,83,68,67].all fun c=>[0,1,2,3,4,5,6,7,8,9].all fun i=>isName (pre c i))=true:=by kernel_rfl
theorem k7{c:UInt8}(hc:c∈([82,83,68,67]:List UInt8)){i:Nat}(h:i<10):isName (pre c i)=true:=by
 have:=Yz3.1 (Yz3.1 zsc c hc) i;refine this ?_;have:i=0∨i=1∨i=2∨i=3∨i=4∨i=5∨i=6∨i=7∨i=8∨i=9:=by omega
 rcases this with rfl|rfl|rfl|rfl|rfl|rfl|rfl|rfl|rfl|rfl<;>simp
theorem zve:([82,83,68,67].all fun c=>[0,1,2].all fun i=>[0,1,2].all fun j=>Nat.beq i j || !eqB (pre c i) (pre c j))=true:=by kernel_rfl
theorem zgd{c:UInt8}(hc:c∈([82,83,68,67]:List UInt8)){i j:Nat}(hi:i<3)(hj:j<3)(h:i≠j):eqB (pre c i) (pre c j)=false:=by
 have hm:∀n<3,n∈([0,1,2]:List Nat):=by
  intro n hn;have:n=0∨n=1∨n=2:=by omega
  rcases this with rfl|rfl|rfl<;>simp
 have:=Yz3.1 (Yz3.1 (Yz3.1 zve c hc) i (hm i hi)) j (hm j hj);rw[YzJ]at this;rcases this with e|e
 ·exact absurd (Lz1 e) h
 ·simpa using e
theorem zjj(n:Nat):isName (zlN n)=true:=by unfold zlN;split<;>rfl
theorem zlM(r:RPl)(hr:r.ok)(n:Nat):(jI r n).any wo=false:=by rw[Yyt];intro x hx;unfold jI at hx;obtain⟨k,_,rfl⟩:=List.mem_map.1 hx;have:=ztm hr (k % 5);unfold wo;simp only[YzJ,Yzn];omega
theorem zpa(i:Nat)(r:RPl)(hr:r.ok):xh (zsn i r)=0:=by
 have h1:=k7 (c:=82) (by simp) (show i % 10<10 by omega);have h2:=zyx _ (ztT r.feet);have h3:=zlM r hr (1+r.pipes % 25);have h4:=qZ r (1+r.pipes % 25);have:=hr.f1;have:=hr.f2
 have h5:decide (-256≤r.first)=true:=decide_eq_true (by omega);have h6:decide (r.first≤256)=true:=decide_eq_true (by omega);have h7:¬(1+r.pipes % 25=0):=by omega
 have h8:¬(128<1+r.pipes % 25):=by omega
 unfold xh zsn;simp only[h1,zjj,h2,h5,h6,yn,h4,h3,h7,h8,Yzw,Yzc,if_false,Yyw,ne_eq,not_true_eq_false]
theorem ziW(l:List Zk)(h:∀r∈l,xh r=0):vQ l=0:=by
 induction l with
 |nil=>rfl
 |cons x l ih=>unfold vQ;rw[Yzb (by simpa using h x (Yzh ..))];exact ih fun r hr=>h r (Yzf _ hr)
theorem zkN:∀(l:List RPl) (i:Nat),(∀r∈l,r.ok)→∀x∈wz i l,xh x=0
 | [],_,_,_,h=>by cases h
 |r::l,i,H,x,h=>by
  rcases YzA.1 h with rfl|h
  ·exact zpa i r (H r (Yzh ..))
  ·exact zkN l _ (fun r hr=>H r (Yzf _ hr)) x h
theorem zkO:∀(l:List RPl) (i:Nat),i+l.length≤3→(∀r∈l,r.ok)→jS (wz i l) ((List.range i).map (pre 82))=0
 | [],_,_,_=>rfl
 |r::l,i,hl,H=>by
  simp only[Yzg]at hl;have h1:=zpa i r (H r (Yzh ..));have hi:i % 10=i:=by omega
  have h2:((List.range i).map (pre 82)).any (eqB (zsn i r).name)=false:=by rw[Yyt];intro s hs;obtain⟨j,hj,rfl⟩:=List.mem_map.1 hs;have hj:=List.mem_range.1 hj;have:=zgd (c:=82) (by simp) (show i<3 by omega) (show j<3 by omega) (by omega);show ¬eqB (pre 82 (i % 10)) (pre 82 j)=true;rw[hi,this];simp
  unfold wz jS;rw[Yzb (by simpa using h1),Yzb (by rw[h2];simp)];have:(List.range i).map (pre 82)++[(zsn i r).name]=(List.range (i+1)).map (pre 82):=by rw[List.range_succ,Yya];show _++[pre 82 (i % 10)]=_;rw[hi];rfl
  rw[this];exact zkO l (i+1) (by omega) fun r hr=>H r (Yzf _ hr)
theorem zbG:∀(l:List RPl) (i:Nat),∀r∈wz i l,zei r
 | [],_,_,h=>by cases h
 |x::l,i,r,h=>by
  rcases YzA.1 h with rfl|h
  ·show (jI x (1+x.pipes % 25)).length≤_;rw[qZ];omega
  ·exact zbG l _ r h
theorem qR(n:Nat)(d:Zp)(h1:0≤d.rank)(h2:d.rank<(n:Int))(h3:-127≤d.shift)(h4:d.shift≤127):xx n [d]=0:=by unfold xx uH uH;rw[Yzb (by simp),Yzb (by omega),Yzb (by omega),Yzb (by omega),Yzb (by omega),Yzb (by simp)]
theorem zjC(n:Nat)(d e:Zp)(h1:0≤d.rank)(h2:d.rank<(n:Int))(h3:-127≤d.shift)(h4:d.shift≤127)(g1:0≤e.rank)(g2:e.rank<(n:Int))(g3:-127≤e.shift)(g4:e.shift≤127)(hne:e≠d):xx n [d,e]=0:=by unfold xx uH uH uH;rw[Yzb (by simp),Yzb (by omega),Yzb (by omega),Yzb (by omega),Yzb (by omega),Yzb (by simp),Yzb (by omega),Yzb (by omega),Yzb (by omega),Yzb (by omega),Yzb (by simpa using hne)]
theorem zuD(x:Place)(hlow:0≤x.low)(hlh:x.low≤x.high)(n m:Int)(sh sh2 at_:Int)(h1:0≤n)(h2:n<(x.ranks.els.length:Int))(h3:0≤m)(h4:m<(x.ranks.els.length:Int))(s1:-100≤sh)(s2:sh≤100)(s3:-100≤sh2)(s4:sh2≤100)(a1:x.low≤at_)(a2:at_≤x.high)(kd:Nat):
  (yZ x.low x.high n sh m sh2 at_ kd).length≠0∧(yZ x.low x.high n sh m sh2 at_ kd).length≤12∧jf x (yZ x.low x.high n sh m sh2 at_ kd) none=0:=by
 have d1:=qR x.ranks.els.length ⟨n,sh⟩ h1 h2 (by show -127≤sh;omega) (by show sh≤127;omega);have d2:=qR x.ranks.els.length ⟨m,sh2⟩ h3 h4 (by show -127≤sh2;omega) (by show sh2≤127;omega);have d3:=qR x.ranks.els.length ⟨n,sh-12⟩ h1 h2 (by show -127≤sh-12;omega) (by show sh-12≤127;omega);have d4:=zjC x.ranks.els.length ⟨n,sh⟩ ⟨n,sh+7⟩ h1 h2 (by show -127≤sh;omega) (by show sh≤127;omega) h1 h2 (by show -127≤sh+7;omega) (by show sh+7≤127;omega) (fun h=>by have:=congrArg Zp.shift h;simp only at this;omega);have one:∀(lo hi:Int) (ds:List Zp) (p:Option Int) (r:List Seg),x.low≤lo→lo≤hi→hi≤x.high→leO lo p=false→xx x.ranks.els.length ds=0→jf x (⟨lo,hi,some ds⟩::r) p=jf x r (some hi):=by intro lo hi ds p r e1 e2 e3 e4 e5;rw[jf];simp only[yn,e4,e5];rw[Yzb (by omega),Yzb (by omega),Yzb (by omega),Yzb (by simp),Yzb (by simp)]
 unfold yZ;split
 ·refine⟨by simp,by simp,?_⟩;rw[one _ _ _ _ _ (by omega) (by omega) (by omega) rfl d4];rfl
 ·by_cases hb:x.low<at_
  ·rw[Yze hb];refine⟨by simp,by simp,?_⟩;rw[one _ _ _ _ _ (by omega) (by omega) (by omega) rfl d1,one _ _ _ _ _ (by omega) (by omega) (by omega) (by simp only[leO];exact decide_eq_false (by omega)) d2];rfl
  ·rw[Yzb hb];refine⟨by simp,by simp,?_⟩;rw[one _ _ _ _ _ (by omega) (by omega) (by omega) rfl d2];rfl
 ·by_cases hb:x.low<at_
  ·rw[Yze hb];refine⟨by simp,by simp,?_⟩;rw[one _ _ _ _ _ (by omega) (by omega) (by omega) rfl d1,one _ _ _ _ _ (by omega) (by omega) (by omega) (by simp only[leO];exact decide_eq_false (by omega)) d3];rfl
  ·rw[Yzb hb];refine⟨by simp,by simp,?_⟩;rw[one _ _ _ _ _ (by omega) (by omega) (by omega) rfl d3];rfl
 ·refine⟨by simp,by simp,?_⟩;rw[one _ _ _ _ _ (by omega) (by omega) (by omega) rfl d1];rfl
 ·refine⟨by simp,by simp,?_⟩;rw[one _ _ _ _ _ (by omega) (by omega) (by omega) rfl d1];rfl
theorem zo8(rs:List Zk)(hl:0<rs.length)(hl3:rs.length≤60)(hr:∀r∈rs,xh r=0)(hf:∀r∈rs,rkF r∈feetA)(low high:Int)(h0:0≤low)(h1:low≤high)(h2:high≤127)(i:Nat)(hi:i<10)(x:Pul):uD ⟨some rs,low,high⟩ (vz rs low high i x)=0:=by
 have p1:jk ⟨some rs,low,high⟩=0:=by unfold jk;rw[Yzb (by simp only[yn];omega),Yzb (by rw[show Sl.els (Place.mk (some rs) low high).ranks=rs from rfl,ziW rs hr];simp)];show right low high=0;unfold right;rw[Yzb (by omega),Yzb (by omega),Yzb (by omega)]
 have hn:x.rank % rs.length<rs.length:=YzO _ hl;have hm:(x.rank % rs.length+1) % rs.length<rs.length:=YzO _ hl;have b1:=znP (fB x.feet) (rkF (zef rs (x.rank % rs.length))) (zeM _) (hf _ (zad hn));have b2:=znP (fB x.feet) (rkF (zef rs ((x.rank % rs.length+1) % rs.length))) (zeM _) (hf _ (zad hm));have hq:0≤(x.at_:Int).tmod (high-low+1)∧(x.at_:Int).tmod (high-low+1)<high-low+1:=⟨Int.tmod_nonneg _ (by omega),Int.tmod_lt_of_pos _ (by omega)⟩;obtain⟨s1,s2,s3⟩:=zuD ⟨some rs,low,high⟩ h0 h1 ((x.rank % rs.length:Nat):Int) (((x.rank % rs.length+1) % rs.length:Nat):Int) (shf (fB x.feet) (rkF (zef rs (x.rank % rs.length)))) (shf (fB x.feet) (rkF (zef rs ((x.rank % rs.length+1) % rs.length)))) (low+((x.at_:Int).tmod (high-low+1)))
  (by omega) (by simp only[yn];omega) (by omega) (by simp only[yn];omega) b1.1 b1.2 b2.1 b2.2 (by show low≤_;omega) (by show _≤high;omega) (x.kind % 6)
 unfold uD vz;rw[Yzb (by rw[p1];simp),Yzb (by rw[show isName _=true from k7 (c:=83) (by simp) hi];simp),Yzb (by simpa using zyw _ (zeM x.feet)),Yzb (by simpa using s1),Yzb (by simp only[yn];exact Nat.not_lt.2 s2)];exact s3
theorem zes(rs:List Zk)(hl:0<rs.length)(hl3:rs.length≤60)(hr:∀r∈rs,xh r=0)(hf:∀r∈rs,rkF r∈feetA)(low high:Int)(h0:0≤low)(h1:low≤high)(h2:high≤127):
  ∀(l:List Pul) (i:Nat),i+l.length≤3→qA ⟨some rs,low,high⟩ (wn rs low high i l) ((List.range i).map (pre 83))=0
 | [],_,_=>rfl
 |x::l,i,h=>by
  simp only[Yzg]at h;have e1:=zo8 rs hl hl3 hr hf low high h0 h1 h2 i (by omega) x;have e2:((List.range i).map (pre 83)).any (eqB (vz rs low high i x).name)=false:=by rw[Yyt];intro s hs;obtain⟨j,hj,rfl⟩:=List.mem_map.1 hs;have hj:=List.mem_range.1 hj;have:=zgd (c:=83) (by simp) (show i<3 by omega) (show j<3 by omega) (by omega);show ¬eqB (pre 83 i) (pre 83 j)=true;rw[this];simp
  unfold wn qA;rw[Yzb (by simpa using e1),Yzb (by rw[e2];simp)];have:(List.range i).map (pre 83)++[(vz rs low high i x).name]=(List.range (i+1)).map (pre 83):=by rw[List.range_succ,Yya];rfl
  rw[this];exact zes rs hl hl3 hr hf low high h0 h1 h2 l (i+1) (by omega)
theorem jo(rs:List Zk)(low high:Int):∀(l:List Pul) (i:Nat),(wn rs low high i l).length=l.length
 | [],_=>rfl
 |_::l,i=>by simp[wn,jo rs low high l]
theorem zn9(b:Boa):right (zdM b) (ki b)=0:=by
 have:=zc3 b;have:=zat b
 unfold right;rw[Yzb (by omega),Yzb (by omega),Yzb (by omega)]
theorem zsm(rs:List Zk)(hl:0<rs.length)(hl3:rs.length≤60)(hr:∀r∈rs,xh r=0)(hf:∀r∈rs,rkF r∈feetA)(i:Nat)(b:Boa)(hb:b.stops.els.length≤3):qw (some rs) (zdT rs i b)=0:=by
 have:=zc3 b;have:=zat b
 unfold qw zdT;simp only[zn,jo,zn9];rw[Yzb (by simp),Yzb (by omega)];exact zes rs hl hl3 hr hf _ _ (by omega) (by omega) (by omega) _ 0 (by omega)
theorem zhe(rs:List Zk)(hl:0<rs.length)(hl3:rs.length≤60)(hr:∀r∈rs,xh r=0)(hf:∀r∈rs,rkF r∈feetA):
  ∀(l:List Boa) (i:Nat),i+l.length≤3→(∀b∈l,b.stops.els.length≤3)→zaK (some rs) (vA rs i l) ((List.range i).map (pre 68))=0
 | [],_,_,_=>rfl
 |x::l,i,h,H=>by
  simp only[Yzg]at h;have e1:=zsm rs hl hl3 hr hf i x (H x (Yzh ..));have e2:((List.range i).map (pre 68)).any (eqB (zdT rs i x).name)=false:=by rw[Yyt];intro s hs;obtain⟨j,hj,rfl⟩:=List.mem_map.1 hs;have hj:=List.mem_range.1 hj;have:=zgd (c:=68) (by simp) (show i<3 by omega) (show j<3 by omega) (by omega);show ¬eqB (pre 68 i) (pre 68 j)=true;rw[this];simp
  have e3:isName (zdT rs i x).name=true:=k7 (c:=68) (by simp) (by omega);unfold vA zaK;rw[Yzb (by rw[e3];simp),Yzb (by rw[e2];simp),Yzb (by simpa using e1)];have:(List.range i).map (pre 68)++[(zdT rs i x).name]=(List.range (i+1)).map (pre 68):=by rw[List.range_succ,Yya];rfl
  rw[this];exact zhe rs hl hl3 hr hf l (i+1) (by omega) fun b hb=>H b (Yzf _ hb)
theorem wU(rs:List Zk):∀(l:List Boa) (i:Nat),(vA rs i l).length=l.length
 | [],_=>rfl
 |_::l,i=>by simp[vA,wU rs l]
theorem zc0(rs:List Zk):∀(l:List Boa) (i:Nat),((vA rs i l).map keyOf).any (fun k=>right k.1 k.2 != 0)=false
 | [],_=>rfl
 |b::l,i=>by simp only[vA,Yzy,List.any_cons,zc0 rs l];have:right (keyOf (zdT rs i b)).1 (keyOf (zdT rs i b)).2=0:=zn9 b;rw[this];rfl
theorem zhf(n:Nat)(hn:0<n):∀(l:List Lnk) (i:Nat) (p:List Cpl),i+l.length≤3→(∀c∈l,c.ok)→p.map Cpl.name=(List.range i).map (pre 67)→zjF n p (ke n i l)=0
 | [],_,_,_,_,_=>rfl
 |x::l,i,p,h,H,hp=>by
  simp only[Yzg]at h;have e2:p.any (fun y=>eqB y.name (qm n i x).name)=false:=by
   rw[Yyt];intro y hy;have:y.name∈(List.range i).map (pre 67):=by rw[←hp];exact List.mem_map_of_mem hy
   obtain⟨j,hj,e⟩:=List.mem_map.1 this;have hj:=List.mem_range.1 hj;have:=zgd (c:=67) (by simp) (show j<3 by omega) (show i<3 by omega) (by omega);rw[←e];show ¬eqB (pre 67 j) (pre 67 i)=true;rw[this];simp
  have e3:isName (qm n i x).name=true:=k7 (c:=67) (by simp) (by omega);have a1:x.src % n<n:=YzO _ hn;have a2:x.dst % n<n:=YzO _ hn;have hs:-25<x.shift.tmod 25∧x.shift.tmod 25<25:=by have:=Int.lt_tmod_of_pos x.shift (show (0:Int)<25 by decide);have:=Int.tmod_lt_of_pos x.shift (show (0:Int)<25 by decide);omega
  have q:∀a:Bool,True:=fun _=>trivial;have f0:¬(qm n i x).src<0:=by show ¬((x.src % n:Nat):Int)<0;omega
  have f1:¬(n:Int)≤(qm n i x).src:=by show ¬(n:Int)≤((x.src % n:Nat):Int);omega
  have f2:¬(qm n i x).dst<0:=by show ¬((x.dst % n:Nat):Int)<0;omega
  have f3:¬(n:Int)≤(qm n i x).dst:=by show ¬(n:Int)≤((x.dst % n:Nat):Int);omega
  have f4:-127≤(qm n i x).shift∧(qm n i x).shift≤127∧¬((qm n i x).src=(qm n i x).dst∧(qm n i x).shift=0):=by
   unfold qm;simp only;split
   ·rename_i hh;exact⟨by omega,by omega,fun h=>by omega⟩
   ·rename_i hh;exact⟨by omega,by omega,fun h=>hh h⟩
  unfold ke zjF;rw[Yzb (by rw[e3];simp),Yzb (by rw[e2];simp),Yzb f0,Yzb f1,Yzb f2,Yzb f3,Yzb (by omega),Yzb (by omega),Yzb f4.2.2];refine zhf n hn l (i+1) _ (by omega) (fun c hc=>H c (Yzf _ hc)) ?_;rw[Yya,hp,List.range_succ,Yya];rfl
theorem kW(n:Nat):∀(l:List Lnk) (i:Nat),(ke n i l).length=l.length
 | [],_=>rfl
 |_::l,i=>by simp[ke,kW n l]
theorem zmz(p:Pln)(hp:p.ok)(hf:zdh p=true):vM (za7 p)=0:=by obtain⟨f1,f2,f3,f4,f5,f6⟩:=uW hf;have hlen:(wz 0 p.ranks.els).length=p.ranks.els.length:=uR _ _;have hg:grow (wz 0 p.ranks.els)=some (wz 0 p.ranks.els):=zf5 (by omega);have r1:=zkO p.ranks.els 0 (by omega) hp.ranks;have d1:=zhe (wz 0 p.ranks.els) (by omega) (by omega) (zkN _ _ hp.ranks) (za6 _ _) p.divs.els 0 (by omega) f6;have c1:=zhf p.divs.els.length (by omega) p.cpls.els 0 [] (by omega) hp.cpls rfl;have k1:=zc0 (wz 0 p.ranks.els) p.divs.els 0;simp only[List.range_zero,List.map_nil]at r1 d1;unfold vM za7;simp only[zn,hg,yn,hlen,wU];rw[Yzb (by rw[show isName zel=true from rfl];simp),Yzb (by omega),Yzb (by rw[r1];simp),Yzb (by omega),Yzb (by omega),Yzb (by rw[d1];simp)];unfold zln;rw[Yzb (by rw[Yzq,wU];omega),Yzb (by rw[kW];omega),Yzb (by rw[k1];simp),Yzq,wU];exact c1
theorem qG(rs:List Zk)(low high:Int):∀(l:List Pul) (i:Nat),∀s∈wn rs low high i l,s.ok
 | [],_,_,h=>by cases h
 |x::l,i,s,h=>by
  rcases YzA.1 h with rfl|h
  ·have hall:∀n sh m sh2 a kd,(yZ low high n sh m sh2 a kd).length≤2∧∀g∈yZ low high n sh m sh2 a kd,g.draws.els.length≤2:=by
    intro n sh m sh2 a kd;unfold yZ;split
    ·simp
    ·split<;>simp
    ·split<;>simp
    ·simp
    ·simp
   obtain⟨q1,q2⟩:=hall ((x.rank % rs.length:Nat):Int) (shf (fB x.feet) (rkF (zef rs (x.rank % rs.length)))) (((x.rank % rs.length+1) % rs.length:Nat):Int)
    (shf (fB x.feet) (rkF (zef rs ((x.rank % rs.length+1) % rs.length)))) (low+((x.at_:Int).tmod (high-low+1))) (x.kind % 6)
   refine⟨?_,fun g hg=>?_⟩
   ·show (yZ _ _ _ _ _ _ _ _).length≤_;omega
   ·have:=q2 g hg;show g.draws.els.length≤_;omega
  ·exact qG rs low high l _ s h
theorem zvh(p:Pln)(hf:zdh p=true):(za7 p).ok:=by
 obtain⟨f1,f2,f3,f4,f5,f6⟩:=uW hf;have hd:∀(rs:List Zk) (l:List Boa) (i:Nat),(∀b∈l,b.stops.els.length≤3)→∀d∈vA rs i l,d.ok:=by
  intro rs l
  induction l with
  |nil=>intro i _ d h;cases h
  |cons b l ih=>
   intro i H d h;rcases YzA.1 h with rfl|h
   ·have:=H b (Yzh ..);refine⟨?_,fun s hs=>?_⟩
    ·show (grow (wn rs (zdM b) (ki b) 0 b.stops.els)).els.length≤_;rw[zn,jo];omega
    ·have hs:s∈(grow (wn rs (zdM b) (ki b) 0 b.stops.els)).els:=hs;rw[zn]at hs;exact qG rs _ _ _ _ s hs
   ·exact ih (i+1) (fun b hb=>H b (Yzf _ hb)) d h
 unfold za7;refine⟨?_,fun r hr=>?_,?_,fun d h=>?_,?_⟩
 ·simp only[zn,uR];omega
 ·simp only[zn]at hr;exact zbG _ _ r hr
 ·simp only[zn,wU];omega
 ·simp only[zn]at h;exact hd _ _ _ f6 d h
 ·simp only[zn,kW];omega
end Go.Proofs.Tryz.Kn
end
section
namespace Go.Proofs.Tryz.Kn
open Go Go.CE Go.PE
def wX(a b:Int):Int:=IntKind.wrap .u64 (BitVec.ofInt IntKind.u64.bits a &&& ~~~(BitVec.ofInt IntKind.u64.bits b)).toNat
def zb5(a b:Int):Int:=IntKind.wrap .u64 (BitVec.ofInt IntKind.u64.bits a &&& BitVec.ofInt IntKind.u64.bits b).toNat
theorem wS(a b:Int):zf .andNot (U64 a) (U64 b)=some (U64 (wX a b)):=by simp only[zf,xw,Yza,uG,zle,oD];rfl
theorem yT(a b:Int):zf .and (U64 a) (U64 b)=some (U64 (zb5 a b)):=by simp only[zf,xw,Yza,uG,zyC,oD];rfl
def zd6(a:Int)(n:Nat):Int:=Int.fdiv a (2^(min n 64))
theorem zcb{k:IntKind}(a:Int)(n:Nat):yj false (U64 a) (.int k (n:Int))=some (U64 (zd6 a n)):=by
 have h:ltI (n:Int) 0=false:=by rw[kf];exact decide_eq_false (by omega)
 show oD (zf8 .u64 a (n:Int))=_;unfold zf8;rw[h,Yzd];rfl
theorem zj1{m:Nat}(h:m≤4611686018427387904):wI .u64 (m:Int)=(m:Int):=by rw[zuj];omega
theorem zdS{k:IntKind}{n:Nat}(h:n≤62):yj true (U64 1) (.int k (n:Int))=some (U64 ((2^n:Nat):Int)):=by
 have h0:ltI (n:Int) 0=false:=by rw[kf];exact decide_eq_false (by omega)
 show oD (zf9 .u64 1 (n:Int))=_;unfold zf9;rw[h0,Yzd];have hm:min (n:Int).toNat IntKind.u64.bits=n:=by rw[Yzp];show min n 64=n;omega
 rw[hm];have hp:(2^n:Nat)≤2^62:=Nat.pow_le_pow_right (by decide) h;have e:Int.mul 1 (2^n)=((2^n:Nat):Int):=by show (1:Int)*2^n=_;rw[Int.one_mul];simp
 rw[e,zj1 (Yzr hp (by decide))];rfl
theorem zz7{n:Nat}(h:n≤62):zf .sub (U64 ((2^n:Nat):Int)) (U64 1)=some (U64 ((2^n-1:Nat):Int)):=by
 have hp:(2^n:Nat)≤2^62:=Nat.pow_le_pow_right (by decide) h;have h1:1≤(2^n:Nat):=Nat.one_le_two_pow;have h2:(2:Nat)^62=4611686018427387904:=by decide
 have e:((2^n:Nat):Int)-1=((2^n-1:Nat):Int):=by generalize (2^n:Nat)=m at h1;omega
 rw[zfA,e,zj1 (by omega)]
theorem zAC(a b:Int):zf .neq (U64 a) (U64 b)=some (Bo (!(a==b))):=yg _ _ _
abbrev enU(n:Int):List DV:=[U64 n]
structure Reg where
 stops:Sl Int
 cpls:Int
 off:Int
def ym(r:Reg):List DV:=[enL 1 enU r.stops,U64 r.cpls,U64 r.off]
def qr:List Zj→List Int→Bool
 |d::ds,s::ss=>!(zd6 s d.stops.els.length==0)||qr ds ss
 |_,_=>false
def jC(o:Org)(r:Reg):Int:=
 if vM o≠0 then vM o else if r.stops.els.length≠o.divs.els.length then 5 else if qr o.divs.els r.stops.els=true then 3
 else if zd6 r.cpls o.cpls.els.length≠0 then 3 else if zd6 r.off o.divs.els.length≠0 then 3 else 0
theorem l55(dv:Sl Zj)(hd:dv.els.length≤9223372036854775807)(st:Sl Int)(hl:st.els.length=dv.els.length):∀(ds:List Zj) (ss:List Int) (i:Nat),dv.els.drop i=ds→st.els.drop i=ss→
  zB (zqT (I6 (dv.els.length:Int)) (enL 5 enV dv) (enL 1 enU st)) [I6 (i:Int)] []=some (if qr ds ss=true then(.ret,[I6 3],[]) else(.exit 0,[],[])):=by
 intro ds
 induction ds with
 |nil=>intro ss i h _;refine zl ?_;simp only[zqT,zi,zc,zb,yK (zH h),zg];rfl
 |cons d ds ih=>
  intro ss i h h';have h1:=zZ h;cases ss with
  |nil=>have:=zH h';omega
  |cons s ss=>
   have ea:zf .add (I6 (i:Int)) (I6 1)=some (I6 ((i+1:Nat):Int)):=yf;have body:zqT (I6 (dv.els.length:Int)) (enL 5 enV dv) (enL 1 enU st) [I6 (i:Int)] []=some (if zd6 s d.stops.els.length=0 then(.normal,[I6 ((i+1:Nat):Int)],[]) else(.ret,[I6 3],[])):=by simp only[zqT,zi,zc,zb,x4 h1,zg,if_true,zO h,zO h',enV,yE,xc,zA,zcb,zAC,ea];by_cases hz:zd6 s d.stops.els.length=0<;>simp[hz]
   by_cases hc:zd6 s d.stops.els.length=0
   ·rw[Yze hc]at body;rw[zx body,ih ss (i+1) (zw h) (zw h')];simp[qr,hc]
   ·rw[Yzb hc]at body;rw[zG body];simp[qr,hc]
theorem t55(k:Nat)(o:Org)(ho:o.ok)(r:Reg):D (k+10) 55 [SA (enO o),SA (ym r)]=some (S1 (I6 (jC o r))):=by
 have c:=t54 k o ho;unfold enO at c ⊢;unfold ym;rw[D55];unfold P55 jC;simp only[c,zR,yg,zb,zg,zA];by_cases h1:vM o=0
 ·by_cases h2:r.stops.els.length=o.divs.els.length
  ·have e:(!((r.stops.els.length:Int)==(o.divs.els.length:Int)))=false:=by simp[h2]
   have l:=l55 o.divs ho.dl r.stops h2 o.divs.els r.stops.els 0 rfl rfl;simp only[h1,h2,YzD,Yzw,Yzc,if_false,ne_eq,not_true_eq_false];rw[show (I6 0:DV)=I6 ((0:Nat):Int) from rfl,l];cases qr o.divs.els r.stops.els with
   |true=>rfl
   |false=>
    simp only[Yzc,if_false,zt,Yzj,Yza,zcb,zb,zAC,zg];by_cases h3:zd6 r.cpls o.cpls.els.length=0
    ·by_cases h4:zd6 r.off o.divs.els.length=0<;>simp[h3,h4]
    ·simp[h3]
  ·have e:(!((r.stops.els.length:Int)==(o.divs.els.length:Int)))=true:=by
    have:¬((r.stops.els.length:Int)=(o.divs.els.length:Int)):=by omega
    simp[this]
   simp[h1,h2,e]
 ·simp[h1]
theorem zi4{o:Org}(h:vM o=0):o.divs.els.length≤8∧0<o.divs.els.length:=by
 unfold vM at h;split at h
 ·cases h
 split at h
 ·cases h
 split at h
 ·contradiction
 split at h
 ·cases h
 split at h
 ·cases h
 omega
theorem zww{β:Type}(o:Org)(K:List DV→Option β):bA 4 (some (SA (enO o))) K=K (enO o):=rfl
theorem zt9(o:Org):[atD (enO o) 0,atD (enO o) 1,atD (enO o) 2,atD (enO o) 3]=enO o:=rfl
theorem zqy(r:Reg):[atD (ym r) 0,atD (ym r) 1,atD (ym r) 2]=ym r:=rfl
def qI(n:Nat):Int:=((2^n-1:Nat):Int)
def zsp(d:Zj):Int:=qI d.stops.els.length
def enB(b:Nat→Nat):List DV:=[U8 (b 0:Int),U8 (b 1:Int),U8 (b 2:Int),U8 (b 3:Int),U8 (b 4:Int)]
def vJ(b:Nat→Nat):Nat→List Zj→List Int
 |_,[]=>[]
 |i,d::r=>zb5 (b (i % 3):Int) (zsp d)::vJ b (i+1) r
def qc(o:Org)(b:Nat→Nat):Reg:=⟨grow (vJ b 0 o.divs.els),zb5 (b 3:Int) (qI o.cpls.els.length),zb5 (b 4:Int) (qI o.divs.els.length)⟩
theorem l10(b:Nat→Nat)(hb:∀i,b i<256)(dv:Sl Zj)(hl:dv.els.length≤1000)(hs:∀d∈dv.els,d.stops.els.length≤60)(c0 c1:DV):∀(r:List Zj) (i:Nat) (acc:List Int),dv.els.drop i=r→acc.length=i→
  zB (ziv (enL 5 enV dv) (U8 (b 0:Int)) (U8 (b 1:Int)) (U8 (b 2:Int)) (U8 (b 3:Int)) (U8 (b 4:Int))) [I6 (i:Int),c0,c1] [ocL enU (grow acc)]=some (.exit 0,[c0,c1],[ocL enU (grow (acc++vJ b i r))]):=by
 intro r
 induction r with
 |nil=>intro i acc h _;refine zl ?_;simp only[ziv,zi,yU,zp,zA,zc,zb,yK (zH h),zg,vJ,YzE];rfl
 |cons d r ih=>
  intro i acc h ha;have h1:=zZ h;have hd:=hs d (Lz3 (zJ h));have ea:zf .add (I6 (i:Int)) (I6 1)=some (I6 ((i+1:Nat):Int)):=yf;have e1:zf .rem (I6 (i:Int)) (I6 3)=some (I6 ((i % 3:Nat):Int)):=ziV (b:=3) (by decide);have h3:i % 3<3:=YzO _ (by decide);have e2:vu 5 (I6 ((i % 3:Nat):Int))=some (i % 3):=zcc (by omega);have e3:atD [U8 (b 0:Int),U8 (b 1:Int),U8 (b 2:Int),U8 (b 3:Int),U8 (b 4:Int)] (i % 3)=U8 (b (i % 3):Int):=by
   have:i % 3=0∨i % 3=1∨i % 3=2:=by omega
   rcases this with h|h|h<;>rw[h]<;>rfl
  have hbb:=hb (i % 3);have e4:yi .u64 (U8 (b (i % 3):Int))=some (U64 (b (i % 3):Int)):=jx (by omega);have e5:yi .u64 (I6 (d.stops.els.length:Int))=some (U64 (d.stops.els.length:Int)):=jx (by omega);have sh:yj true (U64 1) (U64 (d.stops.els.length:Int))=some (U64 ((2^d.stops.els.length:Nat):Int)):=zdS (by omega);have sb:zf .sub (U64 ((2^d.stops.els.length:Nat):Int)) (U64 1)=some (U64 (zsp d)):=zz7 (by omega);have ef:fits 8 ((grow acc).els.length+1)=true:=yM (by decide) (by rw[zn];omega);have body:ziv (enL 5 enV dv) (U8 (b 0:Int)) (U8 (b 1:Int)) (U8 (b 2:Int)) (U8 (b 3:Int)) (U8 (b 4:Int)) [I6 (i:Int),c0,c1] [ocL enU (grow acc)]=some (.normal,[I6 ((i+1:Nat):Int),c0,c1],[ocL enU (grow (acc++[zb5 (b (i % 3):Int) (zsp d)]))]):=by rw[yw,←y0 (f:=enU)];simp only[ziv,zi,yU,zp,zA,zc,zb,x4 h1,zg,if_true,e1,e2,e3,e4,zO h,enV,yE,xc,e5,sh,sb,yT,zY,Yzg,Yzx,ef,yF,ea,zU]
  rw[zx body,ih (i+1) _ (zw h) (by simp[ha])];simp[vJ]
theorem t10(k:Nat)(o:Org)(b:Nat→Nat)(hb:∀i,b i<256)(hd:o.divs.els.length≤60)(hs:∀d∈o.divs.els,d.stops.els.length≤60)(hc:o.cpls.els.length≤60):D (k+1) 10 [SA (enO o),SA (enB b)]=some (SA (ym (qc o b))):=by
 have h3:=hb 3;have h4:=hb 4
 have e3:yi .u64 (U8 (b 3:Int))=some (U64 (b 3:Int)):=jx (by omega);have e4:yi .u64 (U8 (b 4:Int))=some (U64 (b 4:Int)):=jx (by omega);have f3:yi .u64 (I6 (o.cpls.els.length:Int))=some (U64 (o.cpls.els.length:Int)):=jx (by omega);have f4:yi .u64 (I6 (o.divs.els.length:Int))=some (U64 (o.divs.els.length:Int)):=jx (by omega);have s3:yj true (U64 1) (U64 (o.cpls.els.length:Int))=some (U64 ((2^o.cpls.els.length:Nat):Int)):=zdS (by omega);have s4:yj true (U64 1) (U64 (o.divs.els.length:Int))=some (U64 ((2^o.divs.els.length:Nat):Int)):=zdS (by omega);have g3:zf .sub (U64 ((2^o.cpls.els.length:Nat):Int)) (U64 1)=some (U64 (qI o.cpls.els.length)):=zz7 (by omega);have g4:zf .sub (U64 ((2^o.divs.els.length:Nat):Int)) (U64 1)=some (U64 (qI o.divs.els.length)):=zz7 (by omega);have l:=l10 b hb o.divs (by omega) hs (U64 (zb5 (b 3:Int) (qI o.cpls.els.length))) (U64 (zb5 (b 4:Int) (qI o.divs.els.length))) o.divs.els 0 [] rfl rfl;rw[show ocL enU (grow ([]:List Int))=none from rfl,YzK]at l;unfold enO enB;rw[D10];unfold P10;simp only[zb,yE,xc,e3,e4,zA,f3,f4,s3,s4,g3,g4,yT];rw[show (I6 0:DV)=I6 ((0:Nat):Int) from rfl,l];simp only[zt,Yzj,Yza,zp,zi,yU,yX];rfl
theorem zbH(rs:List Zk):∀(l:List Boa) (i:Nat),(∀b∈l,b.stops.els.length≤3)→∀d∈vA rs i l,d.stops.els.length≤3
 | [],_,_,_,h=>by cases h
 |b::l,i,H,d,h=>by
  rcases YzA.1 h with rfl|h
  ·have:=H b (Yzh ..);show (grow (wn rs (zdM b) (ki b) 0 b.stops.els)).els.length≤3;rw[zn,jo];exact this
  ·exact zbH rs l (i+1) (fun x hx=>H x (Yzf _ hx)) d h
theorem zeu(p:Pln)(hf:zdh p=true):(za7 p).divs.els.length≤3∧(∀d∈(za7 p).divs.els,d.stops.els.length≤3)∧(za7 p).cpls.els.length≤3:=by
 obtain⟨f1,f2,f3,f4,f5,f6⟩:=uW hf;unfold za7;refine⟨?_,?_,?_⟩
 ·simp only[zn,wU];exact f4
 ·simp only[zn];exact zbH _ _ _ f6
 ·simp only[zn,kW];exact f5
theorem zqx{β:Type}(r:Reg)(K:List DV→Option β):bA 3 (some (SA (ym r))) K=K (ym r):=rfl
theorem zdG(l:List (List DV)):zbU (some []) l=some l:=by cases l<;>rfl
theorem zzF{α:Type}{f:α→List DV}{st off:Nat}{l:List α}{i:Nat}{x x':α}{ds:List DV}(hx:l[i]? = some x)(hle:off+ds.length≤st)(h:(f x).take off++ds++(f x).drop (off+ds.length)=f x'):
  zgR st (some (l.map f)) i off ds=some (some ((l.set i x').map f)):=by
 unfold zgR;have hg:(l.map f)[i]? = some (f x):=by rw[Lz6,hx];rfl
 simp only[hg,Yzl hle,Yza,h,List.map_set]
end Go.Proofs.Tryz.Kn
end
section
namespace Go.Proofs.Tryz.Kn
open Go Go.CE Go.PE
def bit(a:Int)(i:Nat):Bool:=zb5 (zd6 a i) 1==1
theorem zdW(a b:Int):zf .eql (U64 a) (U64 b)=some (Bo (a==b)):=xF _ _ _
def zaY(o:Org):List Reg→Int
 | []=>0
 |r::l=>if jC o r≠0 then jC o r else zaY o l
theorem l28(k:Nat)(o:Org)(ho:o.ok)(l:Sl Reg)(hl:l.els.length≤9223372036854775807):∀(r:List Reg) (i:Nat),l.els.drop i=r→
  zB (zq2 (D (k+10)) (I6 (l.els.length:Int)) (enL 3 ym l) (St o.name) (enL 6 enR o.ranks) (enL 5 enV o.divs) (enL 5 enC o.cpls)) [I6 (i:Int)] []=some (zm0 0 (zaY o r)):=by
 intro r
 induction r with
 |nil=>intro i h;refine zl ?_;simp only[zq2,zi,zc,zb,yK (zH h),zg];rfl
 |cons x r ih=>
  intro i h;have h1:=zZ h;have ea:zf .add (I6 (i:Int)) (I6 1)=some (I6 ((i+1:Nat):Int)):=yf;have c:=t55 k o ho x;simp only[enO,ym]at c;have body:zq2 (D (k+10)) (I6 (l.els.length:Int)) (enL 3 ym l) (St o.name) (enL 6 enR o.ranks) (enL 5 enV o.divs) (enL 5 enC o.cpls) [I6 (i:Int)] [] =
    some (if jC o x≠0 then(.ret,[I6 (jC o x)],[]) else(.normal,[I6 ((i+1:Nat):Int)],[])):=by
   simp only[zq2,zi,zc,zb,x4 h1,zg,if_true,zO h,ym,yE,xc,c,zR,yg,ea];by_cases hz:jC o x=0<;>simp[hz]
  unfold zaY;by_cases a1:jC o x≠0
  ·rw[Yze a1]at body ⊢;rw[zG body];unfold zm0;rw[Yze a1]
  rw[Yzb a1]at body ⊢;rw[zx body,ih (i+1) (zw h)]
def zls(o:Org)(l:List Reg):Int:=if vM o≠0 then vM o else zaY o l
theorem t28(k:Nat)(o:Org)(ho:o.ok)(l:Sl Reg)(hl:l.els.length≤9223372036854775807):D (k+11) 28 [SA (enO o),S1 (enL 3 ym l)]=some (S1 (I6 (zls o l.els))):=by
 have c:=t54 (k+1) o ho;have ll:=l28 k o ho l hl l.els 0 rfl;unfold enO at c ⊢;rw[D28];unfold P28 zls;simp only[c,zR,yg,zb,zg,zA];by_cases h1:vM o=0
 ·rw[show (I6 0:DV)=I6 ((0:Nat):Int) from rfl,ll];unfold zm0;by_cases h4:zaY o l.els=0<;>simp[h1,h4]
 ·simp[h1]
theorem jv(b:Nat→Nat):∀(l:List Zj) (i:Nat),(vJ b i l).length=l.length
 | [],_=>rfl
 |d::l,i=>by simp[vJ,jv b l (i+1)]
end Go.Proofs.Tryz.Kn
end
section
namespace Go.Proofs.Tryz.Kn
open Go Go.CE Go.PE
structure Ze where
 rank:Int
 num:Int
deriving DecidableEq
def ltP(a b:Ze):Prop:=a.rank<b.rank∨(a.rank=b.rank∧a.num<b.num)
def leP(a b:Ze):Prop:=a.rank<b.rank∨(a.rank=b.rank∧a.num≤b.num)
instance (a b:Ze):Decidable (ltP a b):=by unfold ltP;infer_instance
theorem Ze.eq{a b:Ze}(h1:a.rank=b.rank)(h2:a.num=b.num):a=b:=by cases a;cases b;simp_all
theorem zAH{a b:Ze}(h:ltP a b):leP a b:=by unfold ltP at h;unfold leP;omega
theorem zpo{a b c:Ze}(h:leP a b)(g:leP b c):leP a c:=by unfold leP at *;omega
theorem zpi{a b c:Ze}(h:ltP a b)(g:ltP b c):ltP a c:=by unfold ltP at *;omega
theorem lt_irrefl{a:Ze}:¬ltP a a:=by unfold ltP;omega
theorem zAJ{a b:Ze}(h:leP a b)(g:a≠b):ltP a b:=by
 unfold leP at h;unfold ltP;rcases h with h|⟨h1,h2⟩
 ·exact .inl h
 ·refine .inr ⟨h1,?_⟩;have:a.num≠b.num:=fun e=>g (Ze.eq h1 e);omega
theorem zAK{a b c:Ze}(h:leP a b)(g:ltP b c):ltP a c:=by unfold leP at h;unfold ltP at *;omega
theorem zgD:∀(l m:List Ze),l.Pairwise ltP→m.Pairwise ltP→(∀y,y∈l↔y∈m)→l=m
 | [],[],_,_,_=>rfl
 | [],y::m,_,_,h=>by have:=(h y).2 (Yzh ..);cases this
 |x::l,[],_,_,h=>by have:=(h x).1 (Yzh ..);cases this
 |x::l,y::m,h1,h2,h=>by
  have a1:=List.pairwise_cons.1 h1;have a2:=List.pairwise_cons.1 h2;have hxy:x=y:=by
   rcases YzA.1 ((h x).1 (Yzh ..)) with e|hx
   ·exact e
   ·rcases YzA.1 ((h y).2 (Yzh ..)) with e|hy
    ·exact e.symm
    ·exact absurd (zpi (a1.1 y hy) (a2.1 x hx)) lt_irrefl
  subst hxy;rw[zgD l m a1.2 a2.2 fun z=>?_]
  constructor
  ·intro hz;rcases YzA.1 ((h z).1 (Yzf _ hz)) with e|hz'
   ·exact absurd (e▸a1.1 z hz) lt_irrefl
   ·exact hz'
  ·intro hz;rcases YzA.1 ((h z).2 (Yzf _ hz)) with e|hz'
   ·exact absurd (e▸a2.1 z hz) lt_irrefl
   ·exact hz'
def Kept(l acc:List Ze)(m:Nat):Prop:=acc.Pairwise ltP∧∀y,y∈acc↔y∈l.take m
theorem Kept.same{l acc:List Ze}{m:Nat}(H:Kept l acc (m+1)){x:Ze}(h0:l[m]? = some x)(h1:l[m+1]? = some x):Kept l acc (m+2):=by
 refine⟨H.1,fun y=>(H.2 y).trans ?_⟩;rw[show l.take (m+2)=l.take (m+1)++[x] by rw[Yyf (i:=m+1),h1];rfl,YzI,YzF]
 constructor
 ·exact .inl
 ·rintro (h|rfl)
  ·exact h
  ·exact Lz3 (i:=m) (by rw[YzP,Yze (by omega)];exact h0)
theorem Kept.next{l acc:List Ze}{m:Nat}(hs:l.Pairwise leP)(H:Kept l acc (m+1)){x z:Ze}(h0:l[m]? = some z)(h1:l[m+1]? = some x)(hne:x≠z):Kept l (acc++[x]) (m+2):=by
 have hzx:ltP z x:=by
  refine zAJ ?_ (fun e=>hne e.symm);obtain⟨i0,e0⟩:=Lz0.1 h0;obtain⟨i1,e1⟩:=Lz0.1 h1;have:=(List.pairwise_iff_getElem.1 hs) m (m+1) i0 i1 (by omega)
  rwa [e0,e1]at this
 refine⟨List.pairwise_append.2 ⟨H.1,List.pairwise_singleton ..,fun a ha b hb=>?_⟩,fun y=>?_⟩
 ·obtain rfl:=YzF.1 hb;have ha':=(H.2 a).1 ha;obtain⟨i,hi⟩:=List.mem_iff_getElem?.1 ha';rw[YzP]at hi;split at hi
  ·rename_i hi2;by_cases him:i=m
   ·subst him;rw[h0]at hi;cases hi;exact hzx
   ·obtain⟨i0,e0⟩:=Lz0.1 h0;obtain⟨i1,e1⟩:=Lz0.1 hi;have:=(List.pairwise_iff_getElem.1 hs) i m i1 i0 (by omega);rw[e0,e1]at this;exact zAK this hzx
  ·cases hi
 ·rw[show l.take (m+2)=l.take (m+1)++[x] by rw[Yyf (i:=m+1),h1];rfl,YzI,YzI,H.2]
def zX(p:Ze):List DV:=[I6 p.rank,I6 p.num]
abbrev ocP(l:List Ze):OC:=ocL zX (some l)
theorem zez(l:List Ze):xt (ocP l)=l.length:=by simp
theorem zi1{l:List Ze}{i:Nat}(h:i<l.length):y2 (ocP l) (I6 (i:Int))=some i:=wv (by simpa using h)
theorem zeo{l:List Ze}{i:Nat}{x:Ze}(h:l[i]? = some x):vZ (ocP l) i=some (zX x):=by show (l.map zX)[i]? = _;rw[Lz6,h];rfl
theorem zxd{l:List Ze}{i:Nat}(h:i<l.length)(x:Ze):zgR 2 (ocP l) i 0 [I6 x.rank,I6 x.num]=some (ocP (l.set i x)):=by
 have:(l.map zX)[i]? = some (zX l[i]):=by rw[Lz6,Lz5 h];rfl
 show (match (l.map zX)[i]? with
  |some y=>bif Nat.ble (0 + [I6 x.rank,I6 x.num].length) 2 then some (some ((l.map zX).set i (y.take 0++[I6 x.rank,I6 x.num]++y.drop (0 + [I6 x.rank,I6 x.num].length)))) else none
  |none=>none)=_
 rw[this];show some (some ((l.map zX).set i (zX x)))=some (some ((l.set i x).map zX));rw[List.map_set]
theorem zaH(a b:Ze):zb1 [1,1] [I6 a.rank,I6 a.num] [I6 b.rank,I6 b.num]=some (decide (a=b)):=by
 cases a with|mk r s=>
 cases b with|mk r' s'=>
 simp only[zb1,eqD,xw,Yza,jE];by_cases h1:r=r'
 ·by_cases h2:s=s'
  ·simp[h1,h2]
  ·have e2:(s==s')=false:=by simpa using h2
   simp[h1,h2,e2]
 ·have e1:(r==r')=false:=by simpa using h1
  simp[h1,e1]
theorem take_set{l:List Ze}{i:Nat}{x:Ze}(h:i<l.length):(l.set i x).take (i+1)=l.take i++[x]:=by rw[Yyf,List.getElem?_set_self h,List.take_set,List.set_eq_of_length_le (by simp;omega)];rfl
theorem zAL(l:List Ze)(n k:Nat)(hn:l.length=n)(hs:l.Pairwise leP)(hn2:n≤1000)(hk:1≤k)(hkn:k<n):∀(m k2:Nat) (w acc:List Ze),k2+m=n-k→1≤k2→acc.length≤k+k2-1→w.length=n→w.take acc.length=acc→
  (∀i,k+k2-1≤i→w[i]? = l[i]?)→Kept l acc (k+k2)→∃w' acc',zB (zh9 (k,n-k)) [I6 (k2:Int),I6 (acc.length:Int)] [ocP w]=some (.exit 2,[I6 (acc'.length:Int)],[ocP w'])∧w'.length=n∧w'.take acc'.length=acc'∧acc'.length<n∧Kept l acc' n
 |0,k2,w,acc,h1,h2,h3,h4,h5,_,h7=>by refine⟨w,acc,zl ?_,h4,h5,by omega,by rwa [show n=k+k2 by omega]⟩;simp only[zh9,zi,yU,zp,xj,zc,zb,yK (show n-k≤k2 by omega),zg];rfl
 |m+1,k2,w,acc,h1,h2,h3,h4,h5,h6,h7=>by
  obtain⟨x,hx⟩:∃x,l[k+k2]? = some x:=⟨_,Lz5 (by omega)⟩;obtain⟨z,hz⟩:∃z,l[k+k2-1]? = some z:=⟨_,Lz5 (by omega)⟩;have e1:k+(k2-1)=k+k2-1:=by omega
  have hwx:w[k+k2]? = some x:=by rw[h6 _ (by omega),hx]
  have hwz:w[k+(k2-1)]? = some z:=by rw[e1,h6 _ (by omega),hz]
  have i1:vu (n-k) (I6 (k2:Int))=some k2:=zcc (by omega);have es:zf .sub (I6 (k2:Int)) (I6 1)=some (I6 ((k2-1:Nat):Int)):=by rw[show ((k2-1:Nat):Int)=(k2:Int)-1 by omega];exact zbW
  have i2:vu (n-k) (I6 ((k2-1:Nat):Int))=some (k2-1):=zcc (by omega);have ea:zf .add (I6 (k2:Int)) (I6 1)=some (I6 ((k2+1:Nat):Int)):=yf;have eb:zf .add (I6 (acc.length:Int)) (I6 1)=some (I6 ((acc.length+1:Nat):Int)):=yf;have i3:y2 (ocP w) (I6 (acc.length:Int))=some acc.length:=zi1 (by omega);have st:=zxd (l:=w) (i:=acc.length) (by omega) x;have eq:=zaH x z;have body:zh9 (k,n-k) [I6 (k2:Int),I6 (acc.length:Int)] [ocP w]=some (if x=z then(.normal,[I6 ((k2+1:Nat):Int),I6 (acc.length:Int)],[ocP w]) else(.normal,[I6 ((k2+1:Nat):Int),I6 ((acc.length+1:Nat):Int)],[ocP (w.set acc.length x)])):=by simp only[zh9,zi,yU,zp,xj,zc,zb,x4 (show k2<n-k by omega),zg,if_true,i1,zeo hwx,es,i2,zeo hwz,zX,yE,xc,eq,i3,st,ea,eb];by_cases hc:x=z<;>simp[hc]
  have hm:l[k+k2-1+1]? = some x:=by rw[show k+k2-1+1=k+k2 by omega];exact hx
  rw[show k+k2=(k+k2-1)+1 by omega]at h7;by_cases hc:x=z
  ·rw[Yze hc]at body;subst hc;have:=h7.same hz hm;rw[zx body];exact zAL l n k hn hs hn2 hk hkn m (k2+1) w acc (by omega) (by omega) (by omega) h4 h5 (fun i hi=>h6 i (by omega)) (by rwa [show k+k2-1+2=k+(k2+1) by omega]at this)
  ·rw[Yzb hc]at body;have:=h7.next hs hz hm hc
   have hl:(acc++[x]).length=acc.length+1:=by simp
   rw[zx body,←hl];refine zAL l n k hn hs hn2 hk hkn m (k2+1) (w.set acc.length x) (acc++[x]) (by omega) (by omega) (by omega) (by simpa using h4) ?_ (fun i hi=>?_) (by rwa [show k+k2-1+2=k+(k2+1) by omega]at this)
   ·rw[hl,take_set (by omega),h5]
   ·rw[List.getElem?_set,Yzb (by omega)];exact h6 i (by omega)
theorem zlA(y d:Nat):zbT none d y=some d:=rfl
theorem zCa(l:List Ze)(n:Nat)(hn:l.length=n)(hs:l.Pairwise leP)(hn2:n≤1000):∀(m k:Nat),k+m=n→1≤k→Kept l (l.take k) k→
  ∃acc,(zB jH [I6 (k:Int)] [ocP l]=some (.exit 0,[],[ocP acc])∨zB jH [I6 (k:Int)] [ocP l]=some (.ret,[.lst 2 (acc.map zX)],[]))∧Kept l acc n
 |0,k,h1,h2,h3=>by
  refine⟨l,.inl (zl ?_),?_⟩
  ·simp only[jH,zi,zp,zez,xj,zc,zb,yK (show l.length≤k by omega),zg];rfl
  ·rw[show n=k by omega]
   rwa [List.take_of_length_le (by omega)]at h3
 |m+1,k,h1,h2,h3=>by
  obtain⟨x,hx⟩:∃x,l[k]? = some x:=⟨_,Lz5 (by omega)⟩;obtain⟨z,hz⟩:∃z,l[k-1]? = some z:=⟨_,Lz5 (by omega)⟩;have i1:y2 (ocP l) (I6 (k:Int))=some k:=zi1 (by omega);have es:zf .sub (I6 (k:Int)) (I6 1)=some (I6 ((k-1:Nat):Int)):=by rw[show ((k-1:Nat):Int)=(k:Int)-1 by omega];exact zbW
  have i2:y2 (ocP l) (I6 ((k-1:Nat):Int))=some (k-1):=zi1 (by omega);have ea:zf .add (I6 (k:Int)) (I6 1)=some (I6 ((k+1:Nat):Int)):=yf;have eq:=zaH x z;have hb:∀i y:Nat,i≤y→zbT (some (I6 (i:Int))) 0 y=some i:=fun i y h=>by show (bif Nat.ble i y then some i else none)=_;rw[Yzl h];rfl
  have hb2:∀i y:Nat,i≤y→zbT (some (I6 (i:Int))) y y=some i:=fun i y h=>by show (bif Nat.ble i y then some i else none)=_;rw[Yzl h];rfl
  have vw:∀i:Nat,i<n→vwB (some (I6 (i:Int))) none n=some (i,n-i):=fun i h=>by
   unfold vwB;rw[zlA];simp only[hb i n (by omega)];have:(Nat.beq i n)=false:=by
    cases hq:Nat.beq i n with
    |false=>rfl
    |true=>have:=Lz1 hq;omega
   rw[this];simp
  have vt:∀i:Nat,i≤n→vwB none (some (I6 (i:Int))) n=some (0,i-0):=fun i h=>by unfold vwB;rw[hb2 i n h];rfl
  by_cases hc:x=z
  ·subst hc;have h7:Kept l (l.take k) (k+1):=by
    have h3':=h3;rw[show k=(k-1)+1 by omega]at h3';have:=h3'.same hz (by rw[show k-1+1=k by omega];exact hx)
    rwa [show k-1+1=k by omega,show k-1+2=k+1 by omega]at this
   have hlen:(l.take k).length=k:=by simp;omega
   obtain⟨w',acc',c1,c2,c3,c4,c5⟩:=zAL l n k hn hs hn2 h2 (by omega) (n-k-1) 1 l (l.take k) (by omega) (by omega) (by omega) hn (by rw[hlen]) (fun _ _=>rfl) h7;rw[hlen]at c1;refine⟨acc',.inr (zG ?_),c5⟩;have hcl:ziB (ocP w') acc'.length (n-acc'.length) [I6 0,I6 0]=some ((w'.map zX).take acc'.length++List.replicate (n-acc'.length) [I6 0,I6 0]++(w'.map zX).drop (acc'.length+(n-acc'.length))):=rfl;have hcn:((w'.map zX).take acc'.length++List.replicate (n-acc'.length) [I6 0,I6 0]++(w'.map zX).drop (acc'.length+(n-acc'.length))).length=n:=by simp;omega
   simp only[jH,zi,zp,zez,xj,zc,zb,zg,if_true,i1,zeo hx,es,i2,zeo hz,zX,yE,xc,eq,decide_true,hn,vw k (by omega)];rw[show (I6 1:DV)=I6 ((1:Nat):Int) from rfl,c1];simp only[zt,zi,zp,zez,c2,vw acc'.length c4,zb,hcl,zhl,hcn,vt acc'.length (by omega)];rw[x4 (show k<n by omega),Yze rfl];show some ((Zh.ret,[zcI 2 0 (acc'.length-0) (.lst 2 _)],[]):PX)=_;rw[Yyq];show some ((Zh.ret,[DV.lst 2 ((List.drop 0 _).take acc'.length)],[]):PX)=_;rw[List.drop_zero,YzC,List.take_append_of_le_length (by simp;omega),List.take_take,Nat.min_self,←List.map_take,c3]
  ·have hne:decide (x=z)=false:=decide_eq_false hc;have body:jH [I6 (k:Int)] [ocP l]=some (.normal,[I6 ((k+1:Nat):Int)],[ocP l]):=by
    simp only[jH,zi,zp,zez,xj,zc,zb,x4 (show k<l.length by omega),zg,if_true,i1,zeo hx,es,i2,zeo hz,zX,yE,xc,eq,hne,Yzc,if_false,ea]
   rw[zx body];refine zCa l n hn hs hn2 m (k+1) (by omega) (by omega) ?_;have h3':=h3;rw[show k=(k-1)+1 by omega]at h3';have:=h3'.next hs hz (by rw[show k-1+1=k by omega];exact hx) hc
   rw[show k-1+1=k by omega,show k-1+2=k+1 by omega]at this
   rwa [show l.take (k+1)=l.take k++[x] by rw[Yyf,hx];rfl]
def zcr:Seg:=⟨0,0,none⟩
def xK(key:Int)(g:Seg):Bool:=decide (g.lo≤key)&&decide (key≤g.hi)
def uO(s:Zr)(key:Int):Seg:=(s.segs.els.find? (xK key)).getD zcr
theorem zbe{α:Type}(p:α→Bool):∀(l:List α) (i:Nat),(y3 p l i=none∧l.find? p=none)∨∃j g,y3 p l i=some (i+j)∧l[j]? = some g∧l.find? p=some g
 | [],_=>.inl ⟨rfl,rfl⟩
 |x::l,i=>by
  unfold y3;cases h:p x with
  |true=>exact .inr ⟨0,x,by simp,rfl,by simp[h]⟩
  |false=>
   rcases zbe p l (i+1) with⟨a,b⟩|⟨j,g,a,b,c⟩
   ·exact .inl ⟨by simpa using a,by simp[h,b]⟩
   ·exact .inr ⟨j+1,g,by simp only[Yzc,if_false,a];congr 1;omega,by simpa using b,by simp[h,c]⟩
theorem t103(k:Nat)(g:Seg)(key:Int):D (k+1) 103 [SA (enS g),S1 (.fp [I6 key] 0)]=some (S1 (Bo (xK key g))):=by unfold enS;rw[zEk];unfold zBJ xK;by_cases h1:g.lo≤key<;>by_cases h2:key≤g.hi<;>simp[h1,h2]
theorem zDv(k:Nat)(l:Sl Seg)(key:Int)(hl:l.els.length≤9223372036854775807):∀(r:List Seg) (i:Nat),l.els.drop i=r→
  zB (ziw (D (k+1)) (I6 (l.els.length:Int)) (enL 3 enS l) (.fn 103 [[I6 key]])) [I6 (i:Int)] []=some (found (y3 (xK key) r i)):=by
 intro r
 induction r with
 |nil=>intro i h;refine zl ?_;simp only[ziw,zi,zc,zb,yK (zH h),zg];rfl
 |cons g r ih=>
  intro i h;have h1:=zZ h;have ea:zf .add (I6 (i:Int)) (I6 1)=some (I6 ((i+1:Nat):Int)):=yf;have c:zeW (D (k+1)) (.fn 103 [[I6 key]]) [SA [atD (enS g) 0,atD (enS g) 1,atD (enS g) 2]]=some (S1 (Bo (xK key g))):=t103 k g key;have body:ziw (D (k+1)) (I6 (l.els.length:Int)) (enL 3 enS l) (.fn 103 [[I6 key]]) [I6 (i:Int)] []=some (if xK key g then(.ret,[I6 (i:Int)],[]) else(.normal,[I6 ((i+1:Nat):Int)],[])):=by simp only[ziw,zi,zc,zb,x4 h1,zg,if_true,zO h,c,zR,ea];cases xK key g<;>rfl
  cases hc:xK key g with
  |true=>rw[hc]at body;rw[zG body];simp[y3,hc,found]
  |false=>rw[hc]at body;rw[zx body,ih (i+1) (zw h)];simp[y3,hc]
theorem t102(k:Nat)(l:Sl Seg)(key:Int)(hl:l.els.length≤9223372036854775807):D (k+2) 102 [S1 (enL 3 enS l),S1 (.fn 103 [[I6 key]])]=some (S1 (I6 (match y3 (xK key) l.els 0 with|some i=>(i:Int)|none=>-1))):=by rw[zEl];unfold zBK;have:=zDv k l key hl l.els 0 rfl;simp only[zA,zb];rw[show (I6 0:DV)=I6 ((0:Nat):Int) from rfl,this];cases y3 (xK key) l.els 0<;>rfl
theorem t76(k:Nat)(s:Zr)(hs:s.ok)(key:Int):D (k+3) 76 [SA (xe s),S1 (I6 key)]=some (SA (enS (uO s key))):=by
 have c:=t102 k s.segs key hs.len;unfold xe;rw[D76];unfold P76 uO;rw[c];rcases zbe (xK key) s.segs.els 0 with⟨a,b⟩|⟨j,g,a,b,d⟩
 ·rw[a,b];rfl
 ·rw[a,d];have h0:¬(((0+j:Nat):Int)<0):=by omega
  have ix:yy 3 (enL 3 enS s.segs) (I6 ((0+j:Nat):Int))=some (enS g):=by rw[Yzm,yb,b];rfl
  simp only[zgx,zc,h0,decide_false,zb,zg,Yzc,if_false,ix];rfl
def numOf(r:Zk)(d:Zp)(key:Int):Int:=wI .i64 (wI .i64 (key+d.shift)-r.first)
def qp(rs:List Zk)(key:Int)(d:Zp):Option Ze:=
 if d.rank<0 then none else
 match rs[d.rank.toNat]? with
 |none=>none
 |some r=>if 0≤numOf r d key∧numOf r d key<(r.wind.els.length:Int) then some ⟨d.rank,numOf r d key⟩ else none
theorem t77(k:Nat)(rs:Sl Zk)(key:Int)(d:Zp):∃q b,D (k+1) 77 [S1 (enL 6 enR rs),SA [I6 d.rank,I6 d.shift],S1 (I6 key)]=some (.tup [.agg (zX q),.one (Bo b)])∧qp rs.els key d=if b then some q else none:=by
 rw[D77];unfold P77 qp;simp only[zc,zb,zg,zA,xQ,Yzn];by_cases h1:d.rank<0
 ·rw[Yze h1,Yze h1];exact⟨⟨0,0⟩,false,rfl,rfl⟩
 rw[Yzb h1,Yzb h1];obtain⟨m,hm⟩:∃m:Nat,d.rank=(m:Int):=⟨d.rank.toNat,by omega⟩;rw[hm];by_cases h2:(rs.els.length:Int)≤(m:Int)
 ·rw[Yze h2,Yzp,List.getElem?_eq_none (by omega)];exact⟨⟨0,0⟩,false,rfl,rfl⟩
 rw[Yzb h2,Yzp];obtain⟨r,hr⟩:∃r,rs.els[m]? = some r:=⟨_,Lz5 (by omega)⟩;have ix:yy 6 (enL 6 enR rs) (I6 (m:Int))=some (enR r):=by rw[yb,hr];rfl
 rw[hr];simp only[zky,ix,zb,enR,xc,yE,zfA,xQ,zg,zA,zc];show ∃q b,(if decide (0≤numOf r d key)=true then some (DA.tup [.agg [I6 (m:Int),I6 (numOf r d key)],.one (Bo (decide (numOf r d key<(r.wind.els.length:Int))))]) else some (DA.tup [.agg [I6 (m:Int),I6 (numOf r d key)],.one (Bo false)]))=_∧_;by_cases h3:0≤numOf r d key
 ·by_cases h4:numOf r d key<(r.wind.els.length:Int)
  ·exact⟨⟨m,numOf r d key⟩,true,by simp[h3,h4,zX],by simp[h3,h4]⟩
  ·exact⟨⟨m,numOf r d key⟩,false,by simp[h3,h4,zX],by simp[h4]⟩
 ·exact⟨⟨m,numOf r d key⟩,false,by simp[h3,zX],by simp[h3]⟩
theorem zDk(k:Nat)(rs:Sl Zk)(key:Int)(ds:Sl Zp)(g0:List DV)(hg:atD g0 2=enL 2 enD ds):∀(r:List Zp) (i:Nat) (v:Sl Ze),ds.els.drop i=r→v.els.length+r.length≤1000→i+r.length≤1000→
  ∃v':Sl Ze,zB (zqS (D (k+1)) (I6 (ds.els.length:Int)) g0 (enL 6 enR rs) (I6 key)) [I6 (i:Int)] [ocL zX v]=some (.exit 0,[],[ocL zX v'])∧v'.els=v.els++r.filterMap (qp rs.els key):=by
 intro r
 induction r with
 |nil=>intro i v h _ _;refine⟨v,zl ?_,by simp⟩;simp only[zqS,zi,zp,zc,zb,yK (zH h),zg];rfl
 |cons d r ih=>
  intro i v h hv hi;have h1:=zZ h;simp only[Yzg]at hv hi;have ea:zf .add (I6 (i:Int)) (I6 1)=some (I6 ((i+1:Nat):Int)):=yf;obtain⟨q,b,c,hp⟩:=t77 k rs key d;have ix:yy 2 (enL 2 enD ds) (I6 (i:Int))=some (enD d):=zO h _;have ef:fits 16 (v.els.length+1)=true:=yM (by decide) (by omega);have body:zqS (D (k+1)) (I6 (ds.els.length:Int)) g0 (enL 6 enR rs) (I6 key) [I6 (i:Int)] [ocL zX v]=some (.normal,[I6 ((i+1:Nat):Int)],[ocL zX (if b then some (v.els++[q]) else v)]):=by
   simp only[zqS,zi,zp,zc,zb,x4 h1,zg,if_true,hg,ix,enD,yE,xc,c];rw[zBp (by rfl)];simp only[zeR,ztX,zbi,zp4,zX,yE,xc,zY,ef,yF,ea,zb,zU,zg];cases b with
   |true=>simp only[if_true];rw[←y0];rfl
   |false=>rfl
  rw[zx body];cases b with
  |true=>obtain⟨v',e1,e2⟩:=ih (i+1) (some (v.els++[q])) (zw h) (by simp;omega) (by omega);refine⟨v',e1,?_⟩;rw[e2,Yyg,hp];simp
  |false=>obtain⟨v',e1,e2⟩:=ih (i+1) v (zw h) (by omega) (by omega);refine⟨v',e1,?_⟩;rw[e2,Yyg,hp];simp
def wM(rs:List Zk)(key:Int)(ds:List Zp):List Ze:=ds.filterMap (qp rs key)
theorem zsE{l acc:List Ze}{n:Nat}(hn:l.length=n)(H:Kept l acc n):acc.Pairwise ltP∧∀y,y∈acc↔y∈l:=⟨H.1,fun y=>by rw[H.2,List.take_of_length_le (by omega)]⟩
theorem j8:∀{l m:List Ze},l.Pairwise ltP→(∀z∈l,z∈m)→l.length≤m.length
 | [],m,_,_=>Yzu _
 |x::l,m,h,H=>by
  have h':=List.pairwise_cons.1 h;obtain⟨a,b,rfl⟩:=List.append_of_mem (H x (Yzh ..));have:=j8 (l:=l) (m:=a++b) h'.2 fun z hz=>by
   have hm:=H z (Yzf _ hz);rcases YzI.1 hm with hm|hm
   ·exact Yzv _ hm
   ·rcases YzA.1 hm with rfl|hm
    ·exact absurd (h'.1 z hz) lt_irrefl
    ·exact YzB _ hm
  simp only[Yzk,Yzg]at this ⊢;omega
def zq9(p:Ze):List Int:=[p.rank,p.num]
def leB(a b:Ze):Bool:=leZ (zq9 a) (zq9 b)
theorem zba{a b:Ze}:leB a b=true↔leP a b:=by
 unfold leB leZ zq9 leP;simp only[ltZ];by_cases h1:b.rank<a.rank
 ·simp[h1];omega
 ·by_cases h2:a.rank<b.rank
  ·simp[h1,h2]
  ·by_cases h3:b.num<a.num
   ·simp[h1,h2,h3]
   ·have:a.rank=b.rank:=by omega
    simp[h3,this];omega
def q9(p:Ze):Prop:=-2305843009213693952≤p.rank∧p.rank≤2305843009213693952∧-2305843009213693952≤p.num∧p.num≤2305843009213693952
theorem zn8:∀l:List Ze,(∀p∈l,q9 p)→ziT 2 (l.map zX)=some (l.map zq9)
 | [],_=>rfl
 |p::l,h=>by
  have e:zsD (zX p)=some (zq9 p):=rfl;have z:inZ (zq9 p)=true:=by obtain⟨h1,h2,h3,h4⟩:=h p (Yzh ..);unfold inZ zq9;simp[h1,h2,h3,h4]
  simp only[Yzy,ziT,e,zn8 l fun q hq=>h q (Yzf _ hq),z];rfl
def je(l:List Ze):List Ze:=l.mergeSort leB
theorem zaW(l:List Ze):(je l).Perm l:=List.mergeSort_perm l leB
theorem zgL(l:List Ze):(je l).Pairwise leP:=by
 have h:=List.pairwise_mergeSort (le:=leB) (fun a b c h1 h2=>zba.2 (zpo (zba.1 h1) (zba.1 h2))) (fun a b=>by
  cases h:leB a b with
  |true=>rfl
  |false=>
   rw[Yz7];refine zba.2 (zAH ?_);have:¬leP a b:=fun hh=>by rw[zba.2 hh]at h;cases h
   unfold leP at this;unfold ltP;omega) l
 exact h.imp fun h=>zba.1 h
theorem zts{l:List Ze}(h:l.length≤100000)(hz:∀p∈l,q9 p):znK 2 (ocP l)=some (ocP (je l)):=by
 have e:ocP l=some (l.map zX):=rfl;rw[e];unfold znK;simp only[zn8 l hz];have hb:Nat.ble ((l.map zq9).length+1) 4611686018427387904=true:=Yzl (by rw[Yzq];omega);rw[hb,Yza];have:(qB (l.map zq9)).map enZ=(je l).map zX:=by unfold qB je;rw[←List.map_mergeSort (r:=leB) (f:=zq9) (fun a _ b _=>rfl),List.map_map];rfl
 rw[this];rfl
theorem zb8(v:Sl Ze)(hl:v.els.length≤1000)(hz:∀p∈v.els,q9 p):∃(w:OC) (r:Sl Ze),znK 2 (ocL zX v)=some w∧r.els.Pairwise ltP∧(∀y,y∈r.els↔y∈v.els)∧
  ((xt w<2∧mkL 2 w=enL 2 zX r)∨(¬xt w<2∧(zB jH [I6 1] [w]=some (.exit 0,[],[ocL zX r])∨zB jH [I6 1] [w]=some (.ret,[enL 2 zX r],[])))):=by
 cases v with
 |none=>exact⟨none,none,rfl,.nil,fun y=>Iff.rfl,.inl ⟨by decide,rfl⟩⟩
 |some q=>
  rw[yn]at hl hz;have hp:=zaW q;have hs:=zgL q;have hlen:(je q).length=q.length:=hp.length_eq;have e:=zts (l:=q) (by omega) hz;by_cases h2:(je q).length<2
  ·refine⟨ocP (je q),some (je q),e,?_,fun y=>hp.mem_iff,.inl ⟨by rw[zez];exact h2,yX _⟩⟩;rw[yn];generalize je q=l at h2;cases l with
   |nil=>exact .nil
   |cons x l=>cases l with
    |nil=>exact List.pairwise_singleton ..
    |cons y l=>simp only[Yzg]at h2;omega
  ·have k1:Kept (je q) ((je q).take 1) 1:=⟨by
    generalize je q=l;cases l with
    |nil=>exact .nil
    |cons x l=>exact List.pairwise_singleton ..,fun y=>Iff.rfl⟩
   obtain⟨acc,ha,hk⟩:=zCa (je q) (je q).length rfl hs (by omega) ((je q).length-1) 1 (by omega) (by omega) k1;have hk':=zsE rfl hk;refine⟨ocP (je q),some acc,e,hk'.1,fun y=>(hk'.2 y).trans hp.mem_iff,.inr ⟨by rw[zez];exact h2,?_⟩⟩;rcases ha with ha|ha
   ·exact .inl ha
   ·exact .inr ha
theorem t56(k:Nat)(rs:Sl Zk)(s:Zr)(hs:s.ok)(key:Int)(hd:(uO s key).draws.els.length≤900)(hz:∀y∈wM rs.els key (uO s key).draws.els,q9 y):
  ∃v:Sl Ze,D (k+4) 56 [S1 (enL 6 enR rs),SA (xe s),S1 (I6 key)]=some (S1 (enL 2 zX v))∧v.els.Pairwise ltP∧∀y,y∈v.els↔y∈wM rs.els key (uO s key).draws.els:=by
 have c:=t76 k s hs key;unfold xe at c ⊢;rw[D56];unfold P56;rw[c];generalize hg:(uO s key).draws=ds at hd hz ⊢;have hg2:atD (enS (uO s key)) 2=enL 2 enD ds:=by rw[←hg];rfl
 rw[zwv (show (enS (uO s key)).length=3 from rfl)];simp only[hg2,zA,zb];obtain⟨v,e1,e2⟩:=zDk (k+2) rs key ds _ hg2 ds.els 0 none rfl (by simp;omega) (by omega);rw[show (I6 0:DV)=I6 ((0:Nat):Int) from rfl,show (none:OC)=ocL zX none from rfl,e1];have hl:v.els.length≤900:=by rw[e2];simp only[qb,YzK];exact Yzr (List.length_filterMap_le _ _) hd
 have hmem:∀y,y∈v.els↔y∈wM rs.els key ds.els:=fun y=>by rw[e2];simp[wM]
 obtain⟨w,r,f1,f2,f3,f4⟩:=zb8 v (by omega) fun p hp=>hz p ((hmem p).1 hp);refine⟨r,?_,f2,fun y=>(f3 y).trans (hmem y)⟩;simp only[zt,zp,Yzj,Yza,f1,zb,xj,zc,zg,Yzn];rcases f4 with⟨q1,q2⟩|⟨q1,q2⟩
 ·have:((xt w:Nat):Int)<2:=by omega
  rw[Yze this,q2]
 ·have:¬((xt w:Nat):Int)<2:=by omega
  rw[Yzb this];rcases q2 with q2|q2
  ·rw[q2];simp only[zt,Yzj,Yza,zp,yX]
  ·rw[q2];simp only[uj,zi]
end Go.Proofs.Tryz.Kn
end
section
namespace Go.Proofs.Tryz.Kn
open Go Go.CE Go.PE
abbrev y5:=Ze
theorem l66(d:Ze)(l:Sl Ze)(hl:l.els.length≤9223372036854775807):∀(r:List Ze) (i:Nat),l.els.drop i=r→
  zB (zni (I6 (l.els.length:Int)) (enL 2 zX l) (I6 d.rank) (I6 d.num)) [I6 (i:Int)] []=some (found (y3 (fun x=>decide (d=x)) r i)):=by
 intro r
 induction r with
 |nil=>intro i h;refine zl ?_;simp only[zni,zi,zc,zb,yK (zH h),zg];rfl
 |cons x r ih=>
  intro i h;have h1:=zZ h;have ea:zf .add (I6 (i:Int)) (I6 1)=some (I6 ((i+1:Nat):Int)):=yf;have eq:=zaH d x;have body:zni (I6 (l.els.length:Int)) (enL 2 zX l) (I6 d.rank) (I6 d.num) [I6 (i:Int)] []=some (if d=x then(.ret,[I6 (i:Int)],[]) else(.normal,[I6 ((i+1:Nat):Int)],[])):=by simp only[zni,zi,zc,zb,x4 h1,zg,if_true,zO h,zX,yE,xc,eq,ea];by_cases hz:d=x<;>simp[hz]
  by_cases hc:d=x
  ·rw[Yze hc]at body;rw[zG body];simp[y3,hc,found]
  ·rw[Yzb hc]at body;rw[zx body,ih (i+1) (zw h)];simp[y3,hc]
theorem t66(k:Nat)(d:Ze)(l:Sl Ze)(hl:l.els.length≤9223372036854775807):D (k+1) 66 [S1 (enL 2 zX l),SA [I6 d.rank,I6 d.num]]=some (S1 (I6 (match y3 (fun x=>decide (d=x)) l.els 0 with|some i=>(i:Int)|none=>-1))):=by rw[D66];unfold P66;have:=l66 d l hl l.els 0 rfl;simp only[zA,zb];rw[show (I6 0:DV)=I6 ((0:Nat):Int) from rfl,this];cases y3 (fun x=>decide (d=x)) l.els 0<;>rfl
theorem zte(d:Ze)(l:List Ze):(l.any fun x=>decide (d=x))=decide (d∈l):=by
 by_cases h:d∈l
 ·rw[decide_eq_true h,List.any_eq_true];exact⟨d,h,by simp⟩
 ·rw[decide_eq_false h,Yyt];exact fun x hx=>by simpa using fun e:d=x=>h (e▸hx)
theorem t105(k:Nat)(d:y5)(l:Sl y5)(hl:l.els.length≤9223372036854775807):D (k+1) 105 [S1 (enL 2 zX l),SA [I6 d.rank,I6 d.num]]=some (S1 (I6 (match y3 (fun x=>decide (d=x)) l.els 0 with|some i=>(i:Int)|none=>-1))):=by rw[zEj];unfold zBH;have:=l66 d l hl l.els 0 rfl;simp only[zA,zb];rw[show (I6 0:DV)=I6 ((0:Nat):Int) from rfl,show zug=zni from rfl,this];cases y3 (fun x=>decide (d=x)) l.els 0<;>rfl
theorem t80(k:Nat)(d:y5)(l:Sl y5)(hl:l.els.length≤9223372036854775807):D (k+2) 80 [S1 (enL 2 zX l),SA [I6 d.rank,I6 d.num]]=some (S1 (Bo (decide (d∈l.els)))):=by
 have:=t105 k d l hl;rw[D80];unfold P80;rw[this,←zte,←vC (fun x=>decide (d=x)) l.els 0];cases y3 (fun x=>decide (d=x)) l.els 0 with
 |none=>rfl
 |some i=>
  have:(0:Int)≤(i:Int):=by omega
  simp[this]
theorem zD5(a:Int):zb5 a 1=0∨zb5 a 1=1:=by
 unfold zb5;have h:(BitVec.ofInt IntKind.u64.bits a &&& BitVec.ofInt IntKind.u64.bits 1).toNat=(BitVec.ofInt IntKind.u64.bits a).toNat % 2:=by rw[BitVec.toNat_and,show (BitVec.ofInt IntKind.u64.bits 1).toNat=1 from rfl,Nat.and_one_is_mod]
 rw[h];have:(BitVec.ofInt IntKind.u64.bits a).toNat % 2=0∨(BitVec.ofInt IntKind.u64.bits a).toNat % 2=1:=by omega
 rcases this with e|e<;>rw[e]
 ·exact .inl rfl
 ·exact .inr rfl
theorem zqr(a:Int)(i:Nat):(zb5 (zd6 a i) 1==0)=!bit a i:=by unfold bit;rcases zD5 (zd6 a i) with e|e<;>rw[e]<;>rfl
structure Fit (o:Org) (r:Reg):Prop where
 dl:o.divs.els.length≤3
 cl:o.cpls.els.length≤3
 sl:∀d∈o.divs.els,d.stops.els.length≤3
 rng:∀d∈o.divs.els,0≤d.low∧d.low≤d.high∧d.high≤d.low+8∧d.high≤127
 dst:∀x∈o.cpls.els,0≤x.dst∧x.dst<(o.divs.els.length:Int)
 shf:∀x∈o.cpls.els,-1000≤x.shift∧x.shift≤1000
 stp:∀d∈o.divs.els,∀s∈d.stops.els,s.ok∧∀key,(uO s key).draws.els.length≤2
 sml:∀(key:Int) (ds:List Zp) (y:Ze),y∈wM o.ranks.els key ds→q9 y
 rl:r.stops.els.length=o.divs.els.length
def inR(o:Org)(c:y5):Bool:=
 match c.rank with
 | .ofNat n=>(match o.divs.els[n]? with|some d=>decide (d.low≤c.num)&&decide (c.num≤d.high)|none=>false)
 |_=>false
theorem xR{o:Org}{c:y5}:inR o c=true↔∃(n:Nat) (d:Zj),c.rank=(n:Int)∧o.divs.els[n]? = some d∧d.low≤c.num∧c.num≤d.high:=by
 unfold inR
 constructor
 ·intro h;split at h
  ·rename_i n hn;split at h
   ·rename_i d hd;simp only[LzC,Yzn]at h;exact⟨n,d,hn,hd,h.1,h.2⟩
   ·cases h
  ·cases h
 ·rintro⟨n,d,h1,h2,h3,h4⟩
  rw[h1];show (match o.divs.els[n]? with|some d=>decide (d.low≤c.num)&&decide (c.num≤d.high)|none=>false)=true;rw[h2];simp[h3,h4]
def dest(c:y5)(x:Cpl):y5:=⟨x.dst,c.num+x.shift⟩
def goes(o:Org)(r:Reg)(c:y5)(thr:Bool)(i:Nat)(x:Cpl):Bool:=bit r.cpls i&&(x.src==c.rank)&&(!thr||x.thr)&&inR o (dest c x)
def push(q:List y5)(c:y5):List y5:=if c∈q then q else q++[c]
def wD(o:Org)(r:Reg)(c:y5)(thr:Bool):Nat→List Cpl→List y5→List y5
 |_,[],q=>q
 |i,x::l,q=>wD o r c thr (i+1) l (if goes o r c thr i x=true then push q (dest c x) else q)
theorem zfo(q:List y5)(c:y5):(push q c).length≤q.length+1:=by unfold push;split<;>simp
theorem jj{q:List y5}{c y:y5}:y∈push q c↔y∈q∨y=c:=by
 unfold push;split
 ·rename_i h;exact⟨.inl,fun h'=>h'.elim id fun e=>e▸h⟩
 ·simp
theorem zaZ{q:List y5}{c:y5}(h:q.Nodup):(push q c).Nodup:=by
 unfold push;split
 ·exact h
 ·rename_i hq;refine List.nodup_append.2 ⟨h,by simp,fun a ha b hb=>?_⟩;rw[YzF]at hb;subst hb;exact fun e=>hq (e▸ha)
theorem zrQ{q:List y5}{c:y5}{j:Nat}{y:y5}(h:q[j]? = some y):(push q c)[j]? = some y:=by
 unfold push;split
 ·exact h
 ·rw[Lz2 (Lz0.1 h).1];exact h
theorem zl0(o:Org)(r:Reg)(c:y5)(thr:Bool):∀(l:List Cpl) (i:Nat) (q:List y5),(wD o r c thr i l q).length≤q.length+l.length
 | [],_,q=>LzB _
 |x::l,i,q=>by
  have:=zl0 o r c thr l (i+1) (if goes o r c thr i x=true then push q (dest c x) else q);have h2:(if goes o r c thr i x=true then push q (dest c x) else q).length≤q.length+1:=by
   split
   ·exact zfo _ _
   ·omega
  simp only[wD,Yzg];omega
theorem ve(o:Org)(r:Reg)(c:y5)(thr:Bool):∀(l:List Cpl) (i:Nat) (q:List y5),q.Nodup→(wD o r c thr i l q).Nodup
 | [],_,_,h=>h
 |x::l,i,q,h=>by
  refine ve o r c thr l (i+1) _ ?_;split
  ·exact zaZ h
  ·exact h
theorem wR(o:Org)(r:Reg)(c:y5)(thr:Bool){j:Nat}{y:y5}:∀(l:List Cpl) (i:Nat) (q:List y5),q[j]? = some y→(wD o r c thr i l q)[j]? = some y
 | [],_,_,h=>h
 |x::l,i,q,h=>by
  refine wR o r c thr l (i+1) _ ?_;split
  ·exact zrQ h
  ·exact h
theorem xf(o:Org)(r:Reg)(c:y5)(thr:Bool){y:y5}:∀(l:List Cpl) (i:Nat) (q:List y5),y∈wD o r c thr i l q↔y∈q∨∃(j:Nat) (x:Cpl),l[j]? = some x∧goes o r c thr (i+j) x=true∧y=dest c x
 | [],i,q=>by simp[wD]
 |x::l,i,q=>by
  rw[wD,xf o r c thr l (i+1)]
  constructor
  ·rintro (h|⟨j,z,h1,h2,h3⟩)
   ·split at h
    ·rename_i hg;rcases jj.1 h with h|h
     ·exact .inl h
     ·exact .inr ⟨0,x,rfl,hg,h⟩
    ·exact .inl h
   ·exact .inr ⟨j+1,z,by simpa using h1,by rw[show i+(j+1)=i+1+j by omega];exact h2,h3⟩
  ·rintro (h|⟨j,z,h1,h2,h3⟩)
   ·refine .inl ?_;split
    ·exact jj.2 (.inl h)
    ·exact h
   ·cases j with
    |zero=>simp only[Yzi,Option.some.injEq]at h1;subst h1;rw[YzH]at h2;refine .inl ?_;rw[Yze h2];exact jj.2 (.inr h3)
    |succ j=>exact .inr ⟨j,z,by simpa using h1,by rw[show i+1+j=i+(j+1) by omega];exact h2,h3⟩
section
variable {o:Org} {r:Reg} (F:Fit o r)
include F
theorem zqp{G:List DV→List OC→Option PX}{thr:Bool}(k:Nat)(c:y5)(hc:-100000≤c.num∧c.num≤100000)(q:List y5)(hq:q.length≤1000)(i:Nat)(x:Cpl)(hx:o.cpls.els[i]? = some x)
  (hG:G=if thr=true then zh7 (D (k+2)) (I6 (o.cpls.els.length:Int)) (enL 5 enC o.cpls) (U64 r.cpls) [I6 c.rank,I6 c.num] (enL 5 enV o.divs) else zqR (D (k+2)) (I6 (o.cpls.els.length:Int)) (enL 5 enC o.cpls) (U64 r.cpls) (I6 c.rank) (I6 c.num) (enL 5 enV o.divs)):
  G [I6 (i:Int)] [ocL zX (grow q)]=some (.normal,[I6 ((i+1:Nat):Int)],[ocL zX (grow (if goes o r c thr i x=true then push q (dest c x) else q))]):=by
 have hi:=(Lz0.1 hx).1;have hm:=Lz3 hx;have hcl:=F.cl;have ea:zf .add (I6 (i:Int)) (I6 1)=some (I6 ((i+1:Nat):Int)):=yf;have ix:yy 5 (enL 5 enC o.cpls) (I6 (i:Int))=some (enC x):=by rw[yb,hx];rfl
 obtain⟨d1,d2⟩:=F.dst x hm;obtain⟨s1,s2⟩:=F.shf x hm;obtain⟨n,hn⟩:∃n:Nat,x.dst=(n:Int):=⟨x.dst.toNat,by omega⟩;obtain⟨d,hd⟩:∃d,o.divs.els[n]? = some d:=⟨_,Lz5 (by omega)⟩;have iv:yy 5 (enL 5 enV o.divs) (I6 x.dst)=some (enV d):=by rw[hn,yb,hd];rfl
 have ek:zf .add (I6 c.num) (I6 x.shift)=some (I6 (c.num+x.shift)):=yf;have ct:=t80 k (dest c x) (grow q) (by rw[zn];omega);rw[zn]at ct;have ef:fits 16 ((grow q).els.length+1)=true:=yM (by decide) (by rw[zn];omega);have hin:inR o (dest c x)=(decide (d.low≤c.num+x.shift)&&decide (c.num+x.shift≤d.high)):=by unfold inR dest;rw[hn];show (match o.divs.els[n]? with|some d=>_|none=>false)=_;rw[hd]
 have hdest:(dest c x).rank=x.dst∧(dest c x).num=c.num+x.shift:=⟨rfl,rfl⟩;rw[hdest.1,hdest.2]at ct;have hp:(some ((grow q).els.map zX++[[I6 x.dst,I6 (c.num+x.shift)]]):OC)=ocL zX (grow (q++[dest c x])):=by rw[yw,←y0];rfl
 unfold goes;rw[hin];cases thr with
 |false=>
  rw[hG];simp only[Yzc,if_false,zqR,zi,zp,zc,zb,x4 hi,zg,if_true,ix,zcb,yT,zdW,zqr,enC,yE,xc,Bool.not_false,Bool.true_or,Yyi];cases hb:bit r.cpls i with
  |false=>simp[ea]
  |true=>
   simp only[Yzw,Yzc,if_false,yg,zb,zg,Yz1];cases hs:(x.src==c.rank) with
   |false=>simp[ea]
   |true=>
    simp only[Yzw,Yzc,if_false,ek,zb,iv,enV,yE,xc,xQ,zg,Yzn,Yz1];by_cases h1:d.low≤c.num+x.shift
    ·by_cases h2:c.num+x.shift≤d.high
     ·simp only[h1,h2,if_true,xE,zb,zg,decide_true,yX,ct,b1s,zdO,Yza,yI,zY,zU,ef,yF,ea,hp,push,Yyw];by_cases h3:dest c x∈q<;>simp[h3]
     ·simp[h1,h2,ea]
    ·simp[h1,ea]
 |true=>
  rw[hG];simp only[if_true,zh7,zi,zp,zc,zb,x4 hi,zg,ix,zcb,yT,zdW,zqr,enC,yE,xc,Yzw,Yz7];cases hb:bit r.cpls i with
  |false=>simp[ea]
  |true=>
   simp only[Yzw,Yzc,if_false,yg,zb,zg,Yz1];cases hs:(x.src==c.rank) with
   |false=>simp[ea]
   |true=>
    simp only[Yzw,Yzc,if_false,yI,zb,zg,Yz1];cases ht:x.thr with
    |false=>simp[ea]
    |true=>
     simp only[Yzw,Yzc,if_false,ek,zb,iv,enV,yE,xc,xQ,zg,Yzn,Yz1];by_cases h1:d.low≤c.num+x.shift
     ·by_cases h2:c.num+x.shift≤d.high
      ·simp only[h1,h2,if_true,xE,zb,zg,decide_true,yX,ct,b1s,zdO,Yza,yI,zY,zU,ef,yF,ea,hp,push,Yyw];by_cases h3:dest c x∈q<;>simp[h3]
      ·simp[h1,h2,ea]
     ·simp[h1,ea]
theorem zhj{G:List DV→List OC→Option PX}{thr:Bool}(k:Nat)(c:y5)(hc:-100000≤c.num∧c.num≤100000)
  (hG:G=if thr=true then zh7 (D (k+2)) (I6 (o.cpls.els.length:Int)) (enL 5 enC o.cpls) (U64 r.cpls) [I6 c.rank,I6 c.num] (enL 5 enV o.divs) else zqR (D (k+2)) (I6 (o.cpls.els.length:Int)) (enL 5 enC o.cpls) (U64 r.cpls) (I6 c.rank) (I6 c.num) (enL 5 enV o.divs)):
  ∀(l:List Cpl) (i:Nat) (q:List y5),o.cpls.els.drop i=l→q.length+l.length≤1000→zB G [I6 (i:Int)] [ocL zX (grow q)]=some (.exit 0,[],[ocL zX (grow (wD o r c thr i l q))]):=by
 intro l
 induction l with
 |nil=>
  intro i q h _;refine zl ?_;rw[hG];cases thr
  ·simp only[Yzc,if_false,zqR,zi,zp,zc,zb,yK (zH h),zg];rfl
  ·simp only[if_true,zh7,zi,zp,zc,zb,yK (zH h),zg];rfl
 |cons x l ih=>
  intro i q h hq;simp only[Yzg]at hq;rw[zx (zqp F k c hc q (by omega) i x (zJ h) hG)];refine ih (i+1) _ (zw h) ?_;split
  ·have:=zfo q (dest c x);omega
  ·omega
omit F in
theorem zk1{c:y5}{thr:Bool}{i:Nat}{x:Cpl}(h:goes o r c thr i x=true):inR o (dest c x)=true:=by unfold goes at h;rw[LzC]at h;exact h.2
inductive Reach (o:Org) (r:Reg) (c:y5):y5→Prop
 |one (i:Nat) (x:Cpl):o.cpls.els[i]? = some x→goes o r c false i x=true→Reach o r c (dest c x)
 |more (y:y5) (i:Nat) (x:Cpl):Reach o r c y→o.cpls.els[i]? = some x→goes o r y true i x=true→Reach o r c (dest y x)
omit F in
theorem Reach.inR{c y:y5}(h:Reach o r c y):inR o y=true:=by
 cases h with
 |one i x _ h=>exact zk1 h
 |more z i x _ _ h=>exact zk1 h
def zfI(o:Org)(n:Nat):Int:=match o.divs.els[n]? with|some d=>d.low|none=>0
def code(o:Org)(c:y5):Nat:=c.rank.toNat*9+(c.num-zfI o c.rank.toNat).toNat
theorem zwo{c:y5}(h:inR o c=true):code o c<27:=by obtain⟨n,d,h1,h2,h3,h4⟩:=xR.1 h;have hn:=(Lz0.1 h2).1;have:=F.dl;have:=F.rng d (Lz3 h2);unfold code zfI;rw[h1,Yzp,h2];simp only;omega
theorem zs3{a b:y5}(ha:inR o a=true)(hb:inR o b=true)(h:code o a=code o b):a=b:=by
 obtain⟨n,d,h1,h2,h3,h4⟩:=xR.1 ha;obtain⟨m,e,g1,g2,g3,g4⟩:=xR.1 hb;have r1:=F.rng d (Lz3 h2);have r2:=F.rng e (Lz3 g2);unfold code zfI at h;rw[h1,g1,Yzp,Yzp,h2,g2]at h;simp only at h;have hnm:n=m:=by omega
 subst hnm;rw[h2]at g2;cases g2;cases a with|mk ar an=>
 cases b with|mk br bn=>
 simp only at *;rw[h1,g1]
 congr 1
 omega
omit F in
theorem zkJ:∀{l m:List Nat},l.Nodup→(∀z∈l,z∈m)→l.length≤m.length
 | [],m,_,_=>Yzu _
 |x::l,m,h,H=>by
  have h':=List.nodup_cons.1 h;obtain⟨a,b,rfl⟩:=List.append_of_mem (H x (Yzh ..));have:=zkJ (l:=l) (m:=a++b) h'.2 fun z hz=>by
   have hm:=H z (Yzf _ hz);rcases YzI.1 hm with hm|hm
   ·exact Yzv _ hm
   ·rcases YzA.1 hm with rfl|hm
    ·exact absurd hz h'.1
    ·exact YzB _ hm
  simp only[Yzk,Yzg]at this ⊢;omega
theorem vE{q:List y5}(hd:q.Nodup)(h:∀y∈q,inR o y=true):q.length≤27:=by
 have h1:(q.map (code o)).Nodup:=by
  induction q with
  |nil=>simp
  |cons y q ih=>have hc:=List.nodup_cons.1 hd;rw[Yzy,List.nodup_cons];refine⟨fun hm=>?_,ih hc.2 fun z hz=>h z (Yzf _ hz)⟩;obtain⟨z,hz,e⟩:=List.mem_map.1 hm;have:=zs3 F (h z (Yzf _ hz)) (h y (Yzh ..)) e;subst this;exact hc.1 hz
 have:=zkJ h1 (m:=List.range 27) fun z hz=>by obtain⟨y,hy,rfl⟩:=List.mem_map.1 hz;exact List.mem_range.2 (zwo F (h y hy))
 simpa using this
theorem zfX{c:y5}(h:inR o c=true):-100000≤c.num∧c.num≤100000:=by obtain⟨n,d,h1,h2,h3,h4⟩:=xR.1 h;have:=F.rng d (Lz3 h2);omega
structure Que (o:Org) (r:Reg) (c:y5) (q:List y5) (i:Nat):Prop where
 nd:q.Nodup
 re:∀y∈q,Reach o r c y
 fst:∀(j:Nat) (x:Cpl),o.cpls.els[j]? = some x→goes o r c false j x=true→dest c x∈q
 cls:∀(m:Nat) (y:y5),m<i→q[m]? = some y→∀(j:Nat) (x:Cpl),o.cpls.els[j]? = some x→goes o r y true j x=true→dest y x∈q
omit F in
theorem zog{c:y5}{q:List y5}(H:Que o r c q q.length):∀y,y∈q↔Reach o r c y:=by
 refine fun y=>⟨H.re y,fun h=>?_⟩
 induction h with
 |one i x h1 h2=>exact H.fst i x h1 h2
 |more z i x _ h1 h2 ih=>obtain⟨m,hm⟩:=Yz8 ih;exact H.cls m z (Lz0.1 hm).1 hm i x h1 h2
theorem zmF(k:Nat)(c:y5):∀(f i:Nat) (q:List y5),Que o r c q i→i≤q.length→i+f=28→
    ∃q',zB (zh8 (D (k+2)) (enL 5 enC o.cpls) (U64 r.cpls) (enL 5 enV o.divs)) [I6 (i:Int)] [ocL zX (grow q)]=some (.exit 0,[],[ocL zX (grow q')])∧Que o r c q' q'.length:=by
  intro f
  induction f with
  |zero=>intro i q H hi hf;have:=vE F H.nd fun y hy=>(H.re y hy).inR;omega
  |succ f ih=>
    intro i q H hi hf;have hlen:=vE F H.nd fun y hy=>(H.re y hy).inR;by_cases hlt:i<q.length
    · obtain⟨y,hy⟩:∃y,q[i]? = some y:=⟨_,Lz5 hlt⟩
      have hym:=H.re y (Lz3 hy);have hcl:=F.cl;have ls:=zhj F (thr:=true) k y (zfX F hym.inR) rfl o.cpls.els 0 q rfl (by omega);rw[Yze rfl]at ls;have ea:zf .add (I6 (i:Int)) (I6 1)=some (I6 ((i+1:Nat):Int)):=yf;have hg:(grow q).els.length=q.length:=by rw[zn]
      have i1:y2 (ocL zX (grow q)) (I6 (i:Int))=some i:=by
        cases q with
        |nil=>simp at hlt
        |cons a q=>exact wv (by simpa using hlt)
      have i2:vZ (ocL zX (grow q)) i=some (zX y):=by
        cases q with
        |nil=>simp at hlt
        |cons a q=>show ((a::q).map zX)[i]? = _;rw[Lz6,hy];rfl
      have body:zh8 (D (k+2)) (enL 5 enC o.cpls) (U64 r.cpls) (enL 5 enV o.divs) [I6 (i:Int)] [ocL zX (grow q)]=some (.normal,[I6 ((i+1:Nat):Int)],[ocL zX (grow (wD o r y true 0 o.cpls.els q))]):=by simp only[zh8,zi,zp,zY,hg,xj,zc,zb,x4 hlt,zg,if_true,i1,i2,zX,zA];rw[show (I6 0:DV)=I6 ((0:Nat):Int) from rfl,ls];simp only[zt,Yzj,Yza,ea,zb,zp]
      have HQ:Que o r c (wD o r y true 0 o.cpls.els q) (i+1):=by
       refine⟨ve o r y true _ _ _ H.nd,fun z hz=>?_,fun j x h1 h2=>(xf o r y true _ _ _).2 (.inl (H.fst j x h1 h2)),fun m z hm hz j x h1 h2=>?_⟩
       · rcases (xf o r y true _ _ _).1 hz with hz|⟨j,x,h1,h2,h3⟩
         · exact H.re z hz
         · rw[Yzm]at h2
           rw[h3];exact .more y j x hym h1 h2
       · by_cases hmi:m=i
         · subst hmi
           have:=wR o r y true o.cpls.els 0 q hy;rw[hz]at this;cases this;exact(xf o r _ true _ _ _).2 (.inr ⟨j,x,h1,by rw[Yzm];exact h2,rfl⟩)
         · have hmi:m<i:=by omega
           obtain⟨w,hw⟩:∃w,q[m]? = some w:=⟨_,Lz5 (by omega)⟩;have:=wR o r y true o.cpls.els 0 q hw;rw[hz]at this;cases this;exact(xf o r y true _ _ _).2 (.inl (H.cls m _ hmi hw j x h1 h2))
      obtain⟨q',h1,h2⟩:=ih (i+1) (wD o r y true 0 o.cpls.els q) HQ
        (by have:=wR o r y true o.cpls.els 0 q hy;have:=(Lz0.1 this).1;omega) (by omega)
      exact⟨q',by rw[zx body,h1],h2⟩
    · have hi:i=q.length:=by omega
      subst hi;refine⟨q,zl ?_,H⟩;have hg:(grow q).els.length=q.length:=by rw[zn]
      have:=yK (LzB q.length);simp only[zh8,zi,zp,zY,hg,xj,zc,zb,this,zg,Yzc,if_false]
def zeY(o:Org)(r:Reg)(c y:y5):Prop:=Reach o r c y∨(bit r.off c.rank.toNat=false∧y=c)
theorem t57(k:Nat)(c:y5)(hc:inR o c=true):∃S:List y5,D (k+3) 57 [SA (enO o),SA (ym r),SA [I6 c.rank,I6 c.num]]=some (S1 (enL 2 zX (grow S)))∧S.Nodup∧(∀y,y∈S↔zeY o r c y)∧(∀y∈S,inR o y=true):=by
 obtain⟨n,d,hn,hd,_,_⟩:=xR.1 hc;have hnl:=(Lz0.1 hd).1;have hcl:=F.cl;have l1:=zhj F (thr:=false) k c (zfX F hc) rfl o.cpls.els 0 [] rfl (by simp;omega);simp only[Yzc,if_false]at l1;have hq0:Que o r c (wD o r c false 0 o.cpls.els []) 0:=⟨ve o r c false _ _ _ List.nodup_nil,fun y hy=>by
   rcases (xf o r c false _ _ _).1 hy with hy|⟨j,x,h1,h2,h3⟩
   ·cases hy
   ·rw[Yzm]at h2;rw[h3];exact .one j x h1 h2,fun j x h1 h2=>(xf o r c false _ _ _).2 (.inr ⟨j,x,h1,by rw[Yzm];exact h2,rfl⟩),fun m y hm=>by omega⟩
 obtain⟨q,h1,h2⟩:=zmF F k c 28 0 _ hq0 (Yzu _) rfl;have hall:=zog h2;have hlen:=vE F h2.nd fun y hy=>(h2.re y hy).inR;have ct:=t80 k c (grow q) (by rw[zn];omega);rw[zn]at ct;have ef:fits 16 ((grow q).els.length+1)=true:=yM (by decide) (by rw[zn];omega);have hp:(DV.lst 2 ((grow q).els.map zX++[[I6 c.rank,I6 c.num]]))=enL 2 zX (grow (q++[c])):=by rw[yw,w7,Yya];rfl
 have hb:zf .eql (U64 (zb5 (zd6 r.off n) 1)) (U64 0)=some (Bo (!bit r.off n)):=by rw[zdW,zqr]
 refine⟨if bit r.off n=true then q else push q c,?_,?_,?_,?_⟩
 ·unfold enO ym;rw[D57];unfold P57;simp only[zA,zb];rw[show (I6 0:DV)=I6 ((0:Nat):Int) from rfl,show (none:OC)=ocL zX (grow []) from rfl,l1];simp only[zt,Yzj,Yza,zp,h1];rw[hn,zcb];simp only[zb,yT];rw[hb];simp only[zb,zg];rw[←hn];cases hbb:bit r.off n with
  |true=>simp
  |false=>simp only[Bool.not_false,if_true,yX,ct,b1s,zdO,Yza,yI,zb,zg,zY,zU,ef,yF,hp,Yzc,if_false,push];by_cases h3:c∈q<;>simp[h3]
 ·split
  ·exact h2.nd
  ·exact zaZ h2.nd
 ·intro y;unfold zeY;rw[hn,Yzp];cases hbb:bit r.off n with
  |true=>simp[hall]
  |false=>simp[jj,hall]
 ·intro y hy;split at hy
  ·exact(h2.re y hy).inR
  ·rcases jj.1 hy with h|h
   ·exact(h2.re y h).inR
   ·rw[h];exact hc
end
end Go.Proofs.Tryz.Kn
end
section
namespace Go.Proofs.Tryz.Kn
open Go Go.CE Go.PE
theorem zco{α:Type}{f:α→List DV}(v:Sl α)(l:List α):∃v':Sl α,zbU (ocL f v) (l.map f)=ocL f v'∧v'.els=v.els++l:=by
 cases l with
 |nil=>exact⟨v,rfl,by simp⟩
 |cons y l=>exact⟨some (v.els++y::l),by show some (zM (ocL f v)++_)=_;rw[zU,zr4,Yya];rfl,rfl⟩
theorem zx5{n:Nat}(h:n≤1000):mkN 24 (I6 (n:Int)) (I6 (n:Int))=some n:=by show (bif Nat.beq n n&&Nat.ble n 1073741824&&Nat.ble (24*n) 281474976710656 then some n else none)=some n;rw[Yzj,Yzl (show n≤1073741824 by omega),Yzl (show 24*n≤281474976710656 by omega)];rfl
def y9(v:Sl Ze):List DV:=[enL 2 zX v]
def yl(row:List (Sl Ze)):List DV:=[enL 1 y9 (grow row)]
def zdJ(o:Org)(r:Reg)(n:Nat)(key:Int)(y:Ze):Prop:=
 ∃(d:Zj) (s:Int) (j:Nat) (t:Zr),o.divs.els[n]? = some d∧r.stops.els[n]? = some s∧d.stops.els[j]? = some t∧bit s j=true∧y∈wM o.ranks.els key (uO t key).draws.els
def zjZ(o:Org)(r:Reg)(n:Nat)(key:Int)(v:Sl Ze):Prop:=v.els.length≤6∧∀y,y∈v.els↔zdJ o r n key y
def zdY(o:Org)(r:Reg)(c:y5)(y:Ze):Prop:=∃c',zeY o r c c'∧zdJ o r c'.rank.toNat c'.num y
def wp(o:Org)(r:Reg)(n:Nat)(key:Int)(v:Sl Ze):Prop:=v.els.length≤1000∧v.els.Pairwise ltP∧∀y,y∈v.els↔zdY o r ⟨(n:Int),key⟩ y
structure Rows (o:Org) (C:Nat→Int→Sl Ze→Prop) (T:List (List (Sl Ze))):Prop where
 row:∀(n:Nat) (d:Zj) (row:List (Sl Ze)),o.divs.els[n]? = some d→T[n]? = some row→(row.length:Int)=d.high-d.low+1∧∀(i:Nat) (v:Sl Ze),row[i]? = some v→C n (d.low+(i:Int)) v
section
variable {o:Org} {r:Reg} (F:Fit o r)
include F
theorem zmE(k n:Nat)(d:Zj)(s:Int)(hd:o.divs.els[n]? = some d)(hs:r.stops.els[n]? = some s)(key:Int):∀(l:List Zr) (j:Nat) (v:Sl Ze),d.stops.els.drop j=l→v.els.length+2*l.length≤1000→
  ∃v',zB (zdI (D (k+4)) (I6 (d.stops.els.length:Int)) (enV d) (enL 1 enU r.stops) [I6 (n:Int)] (enL 6 enR o.ranks) [I6 key]) [I6 (j:Int)] [ocL zX v]=some (.exit 4,[],[ocL zX v'])∧v'.els.length≤v.els.length+2*l.length∧
   ∀y,y∈v'.els↔y∈v.els∨∃(q:Nat) (t:Zr),l[q]? = some t∧bit s (j+q)=true∧y∈wM o.ranks.els key (uO t key).draws.els:=by
 have hdm:=Lz3 hd;intro l
 induction l with
 |nil=>intro j v h _;refine⟨v,zl ?_,by simp,fun y=>by simp⟩;simp only[zdI,zi,zp,zc,zb,yK (zH h),zg];rfl
 |cons t l ih=>
  intro j v h hv;simp only[Yzg]at hv;have h1:=zZ h;have htm:t∈d.stops.els:=Lz3 (zJ h);obtain⟨hok,hfew⟩:=F.stp d hdm t htm;have hsl:=F.sl d hdm;have ea:zf .add (I6 (j:Int)) (I6 1)=some (I6 ((j+1:Nat):Int)):=yf;have is:yy 1 (enL 1 enU r.stops) (I6 (n:Int))=some [U64 s]:=by rw[yb,hs];rfl
  have i4:atD (enV d) 4=enL 4 xe d.stops:=rfl;by_cases hb:bit s j=true
  ·obtain⟨w,c,w1,w2⟩:=t56 k o.ranks t hok key (by have:=hfew key;omega) fun y hy=>F.sml key _ y hy;unfold xe at c;have hwl:w.els.length≤2:=by
    have a1:=j8 w1 fun z hz=>(w2 z).1 hz;have a2:=List.length_filterMap_le (qp o.ranks.els key) (uO t key).draws.els;have a3:=hfew key;unfold wM at a1;omega
   obtain⟨v1,a1,a2⟩:=zco (f:=zX) v w.els;have ef:fits 16 (v.els.length+w.els.length)=true:=yM (by decide) (by omega);have body:zdI (D (k+4)) (I6 (d.stops.els.length:Int)) (enV d) (enL 1 enU r.stops) [I6 (n:Int)] (enL 6 enR o.ranks) [I6 key] [I6 (j:Int)] [ocL zX v]=some (.normal,[I6 ((j+1:Nat):Int)],[ocL zX v1]):=by have hb':=hb;unfold bit at hb';simp only[zdI,zi,zp,zc,zb,x4 h1,zg,if_true,i4,zO h,is,yE,xc,zcb,yT,zdW,hb',xe,c,zR,vX,zY,Yzq,ef,yF,ea,a1]
   obtain⟨v',b1',b2,b3⟩:=ih (j+1) v1 (zw h) (by rw[a2,Yzk];omega);refine⟨v',by rw[zx body,b1'],by rw[a2,Yzk]at b2;simp only[Yzg];omega,fun y=>(b3 y).trans ?_⟩;rw[a2,YzI,w2 y]
   constructor
   ·rintro ((h|h)|⟨q,z,q1,q2,q3⟩)
    ·exact .inl h
    ·exact .inr ⟨0,t,rfl,hb,h⟩
    ·exact .inr ⟨q+1,z,by simpa using q1,by rw[show j+(q+1)=j+1+q by omega];exact q2,q3⟩
   ·rintro (h|⟨q,z,q1,q2,q3⟩)
    ·exact .inl (.inl h)
    ·cases q with
     |zero=>simp only[Yzi,Option.some.injEq]at q1;subst q1;exact .inl (.inr q3)
     |succ q=>exact .inr ⟨q,z,by simpa using q1,by rw[show j+1+q=j+(q+1) by omega];exact q2,q3⟩
  ·have body:zdI (D (k+4)) (I6 (d.stops.els.length:Int)) (enV d) (enL 1 enU r.stops) [I6 (n:Int)] (enL 6 enR o.ranks) [I6 key] [I6 (j:Int)] [ocL zX v]=some (.normal,[I6 ((j+1:Nat):Int)],[ocL zX v]):=by
    have hb':=(Yyo _).mp hb;unfold bit at hb';simp only[zdI,zi,zp,zc,zb,x4 h1,zg,if_true,i4,zO h,is,yE,zcb,yT,zdW,hb',Yzc,if_false,ea]
   obtain⟨v',b1',b2,b3⟩:=ih (j+1) v (zw h) (by omega);refine⟨v',by rw[zx body,b1'],by simp only[Yzg];omega,fun y=>(b3 y).trans ?_⟩
   constructor
   ·rintro (h|⟨q,z,q1,q2,q3⟩)
    ·exact .inl h
    ·exact .inr ⟨q+1,z,by simpa using q1,by rw[show j+(q+1)=j+1+q by omega];exact q2,q3⟩
   ·rintro (h|⟨q,z,q1,q2,q3⟩)
    ·exact .inl h
    ·cases q with
     |zero=>exact absurd q2 hb
     |succ q=>exact .inr ⟨q,z,by simpa using q1,by rw[show j+1+q=j+(q+1) by omega];exact q2,q3⟩
omit F in
theorem zfw{xs:List (List DV)}{n:Nat}(h:n<xs.length):y2 (some xs) (I6 (n:Int))=some n:=wv h
omit F in
theorem ztR{row:List (Sl Ze)}(h:row.length≤1000):fits 24 ((grow row).els.length+1)=true:=yM (by decide) (by rw[zn];omega)
omit F in
theorem zaN(row:List (Sl Ze))(v:Sl Ze):(some ((grow row).els.map y9++[[enL 2 zX v]]):OC)=ocL y9 (grow (row++[v])):=by rw[yw,←y0];rfl
theorem zpk(k n:Nat)(d:Zj)(s:Int)(hd:o.divs.els[n]? = some d)(hs:r.stops.els[n]? = some s)(xs:List (List DV))(hx:n<xs.length):∀(m:Nat) (key:Int) (row:List (Sl Ze)),key+(m:Int)=d.high+1→d.low≤key→row.length+m≤1000→
  ∃row',zB (zii (D (k+4)) (enV d) (enL 1 enU r.stops) [I6 (n:Int)] (enL 6 enR o.ranks) [some xs] n) [I6 key] [ocL y9 (grow row)]=some (.exit 2,[],[ocL y9 (grow (row++row'))])∧row'.length=m∧∀(i:Nat) (v:Sl Ze),row'[i]? = some v→zjZ o r n (key+(i:Int)) v:=by
 have hdm:=Lz3 hd;have hr:=F.rng d hdm;have a2:atD (enV d) 3=I6 d.high:=rfl;have a4:atD (enV d) 4=enL 4 xe d.stops:=rfl;intro m
 induction m with
 |zero=>intro key row hk _ _;have h1:decide (key≤d.high)=false:=decide_eq_false (by omega);refine⟨[],zl ?_,rfl,fun i v h=>by simp at h⟩;simp only[zii,zi,zp,a2,xE,zb,h1,zg,Yzc,if_false,YzE]
 |succ m ih=>
  intro key row hk hlo hl;have h1:decide (key≤d.high)=true:=decide_eq_true (by omega);have hsl:=F.sl d hdm;obtain⟨v,c1,c2,c3⟩:=zmE F k n d s hd hs key d.stops.els 0 none rfl (by simp;omega);have ea:zf .add (I6 key) (I6 1)=some (I6 (key+1)):=yf;have hc:zjZ o r n key v:=⟨by simp at c2;omega,fun y=>(c3 y).trans (by
   simp only[qb,Yzs,false_or,Yzm]
   constructor
   ·rintro⟨q,t,q1,q2,q3⟩;exact⟨d,s,q,t,hd,hs,q1,q2,q3⟩
   ·rintro⟨d',s',q,t,e1,e2,q1,q2,q3⟩
    rw[hd]at e1;cases e1;rw[hs]at e2;cases e2;exact⟨q,t,q1,q2,q3⟩)⟩
  have body:zii (D (k+4)) (enV d) (enL 1 enU r.stops) [I6 (n:Int)] (enL 6 enR o.ranks) [some xs] n [I6 key] [ocL y9 (grow row)]=some (.normal,[I6 (key+1)],[ocL y9 (grow (row++[v]))]):=by simp only[zii,zi,zp,a2,a4,xE,zb,h1,zg,if_true,zA];rw[show (I6 0:DV)=I6 ((0:Nat):Int) from rfl,show (none:OC)=ocL zX none from rfl,c1];simp only[zt,Yzj,Yza,zp,zfw hx,zb,yF,zY,ztR (show row.length≤1000 by omega),ea,zU,yX,zaN]
  obtain⟨row',q1,q2,q3⟩:=ih (key+1) (row++[v]) (by omega) (by omega) (by simp;omega);refine⟨v::row',by rw[zx body,q1];simp,by simp[q2],fun i w h=>?_⟩;cases i with
  |zero=>
   simp only[Yzi,Option.some.injEq]at h;subst h
   simpa using hc
  |succ i=>
   have:=q3 i w (by simpa using h)
   rwa [show key+1+(i:Int)=key+((i+1:Nat):Int) by omega]at this
omit F in
theorem znS(T:List (List (Sl Ze)))(m:Nat)(row:List (Sl Ze)):(T.map yl++List.replicate (m+1) [DV.nils]).set T.length [enL 1 y9 (grow row)]=(T++[row]).map yl++List.replicate m [DV.nils]:=by rw[List.set_append_right _ _ (by simp),Yzq,Nat.sub_self,List.replicate_succ,List.set_cons_zero,Yya];simp[yl]
omit F in
theorem zoQ(T:List (List (Sl Ze)))(m:Nat):(T.map yl++List.replicate (m+1) [DV.nils])[T.length]? = some [DV.nils]:=by rw[Lz8 (by simp),Yzq,Nat.sub_self,List.replicate_succ];rfl
omit F in
theorem Rows.snoc{C:Nat→Int→Sl Ze→Prop}{T:List (List (Sl Ze))}{d:Zj}{row:List (Sl Ze)}(H:Rows o C T)(hd:o.divs.els[T.length]? = some d)(hl:(row.length:Int)=d.high-d.low+1)(hc:∀(i:Nat) (v:Sl Ze),row[i]? = some v→C T.length (d.low+(i:Int)) v):Rows o C (T++[row]):=
 ⟨fun n d' row' hd' hr => by
  by_cases h:n<T.length
  ·rw[Lz2 h]at hr;exact H.row n d' row' hd' hr
  ·have hn:n=T.length:=by
    have:=(Lz0.1 hr).1;simp at this;omega
   subst hn;rw[Yz5]at hr;cases hr;rw[hd]at hd';cases hd';exact⟨hl,hc⟩⟩
theorem zmH(k:Nat):∀(l:List Zj) (T:List (List (Sl Ze))),o.divs.els.drop T.length=l→Rows o (zjZ o r) T→
  ∃T',zB (zq1 (D (k+4)) (I6 (o.divs.els.length:Int)) (enL 5 enV o.divs) (enL 1 enU r.stops) (enL 6 enR o.ranks)) [I6 (T.length:Int)] [some (T.map yl++List.replicate l.length [.nils])]=some (.exit 0,[],[some (T'.map yl)])∧T'.length=T.length+l.length∧Rows o (zjZ o r) T':=by
 intro l
 induction l with
 |nil=>intro T h H;refine⟨T,zl ?_,by simp,H⟩;simp only[zq1,zi,zp,zc,zb,yK (zH h),zg,Yzc,if_false,Yzx,List.replicate_zero,YzE]
 |cons d l ih=>
  intro T h H;have h1:=zZ h;have hdl:=F.dl;have hd:=zJ h;have hr:=F.rng d (Lz3 hd);have hrl:=F.rl;obtain⟨s,hs⟩:∃s,r.stops.els[T.length]? = some s:=⟨_,Lz5 (by omega)⟩;have hx:T.length<(T.map yl++List.replicate (l.length+1) [DV.nils]).length:=by simp
  obtain⟨row,c1,c2,c3⟩:=zpk F k T.length d s hd hs _ hx (d.high-d.low+1).toNat d.low [] (by omega) (Int.le_refl _) (by simp;omega);have ea:zf .add (I6 (T.length:Int)) (I6 1)=some (I6 ((T.length+1:Nat):Int)):=yf;have iv:yy 5 (enL 5 enV o.divs) (I6 (T.length:Int))=some (enV d):=by rw[yb,hd];rfl
  have a2:atD (enV d) 2=I6 d.low:=rfl;have body:zq1 (D (k+4)) (I6 (o.divs.els.length:Int)) (enL 5 enV o.divs) (enL 1 enU r.stops) (enL 6 enR o.ranks) [I6 (T.length:Int)] [some (T.map yl++List.replicate (l.length+1) [.nils])]=some (.normal,[I6 (((T++[row]).length:Nat):Int)],[some ((T++[row]).map yl++List.replicate l.length [.nils])]):=by simp only[zq1,zi,zp,zc,zb,x4 h1,zg,if_true,iv,zfw hx];rw[show vZ (some (T.map yl++List.replicate (l.length+1) [DV.nils])) T.length=some [DV.nils] from zoQ T l.length];simp only[zb,yE,gdN,a2];rw[show (none:OC)=ocL y9 (grow []) from rfl,c1];simp only[zt,zp,yX,YzK,zxe,zb,Yzj,Yza,ea,znS,Yzk,Yyr]
  obtain⟨T',q1,q2,q3⟩:=ih (T++[row]) (by rw[Yzk,Yyr];exact zw h) (H.snoc hd (by rw[c2];omega) c3);refine⟨T',by rw[Yzg,zx body,q1],by simp at q2 ⊢;omega,q3⟩
theorem zmI(T:List (List (Sl Ze)))(hT:T.length=o.divs.els.length)(H:Rows o (zjZ o r) T)(S:List y5)(hS:∀y∈S,inR o y=true)(hl:S.length≤27):∀(l:List y5) (i:Nat) (v:Sl Ze),S.drop i=l→v.els.length+6*l.length≤1000→
  ∃v',zB (zif (I6 (S.length:Int)) (enL 2 zX (grow S)) [some (T.map yl)] (enL 5 enV o.divs)) [I6 (i:Int)] [ocL zX v]=some (.exit 10,[],[ocL zX v'])∧v'.els.length≤v.els.length+6*l.length∧
   ∀y,y∈v'.els↔y∈v.els∨∃c∈l,zdJ o r c.rank.toNat c.num y:=by
 intro l
 induction l with
 |nil=>intro i v h _;refine⟨v,zl ?_,by simp,fun y=>by simp⟩;simp only[zif,zi,zp,zc,zb,yK (zH h),zg];rfl
 |cons c l ih=>
  intro i v h hv;simp only[Yzg]at hv;have h1:=zZ h;have hdl:=F.dl;obtain⟨n,d,e1,e2,e3,e4⟩:=xR.1 (hS c (Lz3 (zJ h)));have hn:=(Lz0.1 e2).1;have hr:=F.rng d (Lz3 e2);obtain⟨row,hrow⟩:∃row,T[n]? = some row:=⟨_,Lz5 (by omega)⟩;obtain⟨g1,g2⟩:=H.row n d row e2 hrow;obtain⟨j,hj⟩:∃j:Nat,c.num-d.low=(j:Int):=⟨(c.num-d.low).toNat,by omega⟩;obtain⟨w,hw⟩:∃w,row[j]? = some w:=⟨_,Lz5 (by omega)⟩;obtain⟨w1,w2⟩:=g2 j w hw;have ea:zf .add (I6 (i:Int)) (I6 1)=some (I6 ((i+1:Nat):Int)):=yf;have es:zf .sub (I6 c.num) (I6 d.low)=some (I6 (j:Int)):=by rw[←hj];exact zbW
  have hdr:(grow S).els.drop i=c::l:=by rw[zn];exact h
  have ix:yy 2 (enL 2 zX (grow S)) (I6 (i:Int))=some [I6 c.rank,I6 c.num]:=zO hdr .i64;have i1:y2 (some (T.map yl)) (I6 c.rank)=some n:=by rw[e1];exact wv (by simp;omega)
  have i2:vZ (some (T.map yl)) n=some [enL 1 y9 (grow row)]:=by show (T.map yl)[n]? = _;rw[Lz6,hrow];rfl
  have iv:yy 5 (enL 5 enV o.divs) (I6 c.rank)=some (enV d):=by rw[e1,yb,e2];rfl
  have a2:atD (enV d) 2=I6 d.low:=rfl;have ic:yy 1 (enL 1 y9 (grow row)) (I6 (j:Int))=some [enL 2 zX w]:=by rw[yb,zn,hw];rfl
  obtain⟨v1,b1',b2⟩:=zco (f:=zX) v w.els;have ef:fits 16 (v.els.length+w.els.length)=true:=yM (by decide) (by omega);have body:zif (I6 (S.length:Int)) (enL 2 zX (grow S)) [some (T.map yl)] (enL 5 enV o.divs) [I6 (i:Int)] [ocL zX v]=some (.normal,[I6 ((i+1:Nat):Int)],[ocL zX v1]):=by simp only[zif,zi,zp,zc,zb,x4 h1,zg,if_true,ix,yE,xc,i1,i2,iv,a2,es,ic,vX,zY,Yzq,ef,yF,ea,b1']
  obtain⟨v',q1,q2,q3⟩:=ih (i+1) v1 (zw h) (by rw[b2,Yzk];omega);refine⟨v',by rw[zx body,q1],by rw[b2,Yzk]at q2;simp only[Yzg];omega,fun y=>(q3 y).trans ?_⟩;have hwy:y∈w.els↔zdJ o r c.rank.toNat c.num y:=by rw[w2 y,e1,Yzp,show d.low+(j:Int)=c.num by omega]
  rw[b2,YzI,hwy]
  constructor
  ·rintro ((h|h)|⟨z,hz,h⟩)
   ·exact .inl h
   ·exact .inr ⟨c,Yzh ..,h⟩
   ·exact .inr ⟨z,Yzf _ hz,h⟩
  ·rintro (h|⟨z,hz,hdz⟩)
   ·exact .inl (.inl h)
   ·rcases YzA.1 hz with e|hz
    ·rw[e]at hdz;exact .inl (.inr hdz)
    ·exact .inr ⟨z,hz,hdz⟩
theorem zmJ(k n:Nat)(d:Zj)(hd:o.divs.els[n]? = some d)(T:List (List (Sl Ze)))(hT:T.length=o.divs.els.length)(H:Rows o (zjZ o r) T)(xs:List (List DV))(hx:n<xs.length):∀(m:Nat) (key:Int) (row:List (Sl Ze)),key+(m:Int)=d.high+1→d.low≤key→row.length+m≤1000→
  ∃row',zB (zig (D (k+3)) (enV d) (St o.name) (enL 6 enR o.ranks) (enL 5 enV o.divs) (enL 5 enC o.cpls) (enL 1 enU r.stops) (U64 r.cpls) (U64 r.off) [I6 (n:Int)] [some (T.map yl)] [some xs] n) [I6 key] [ocL y9 (grow row)]=some (.exit 8,[],[ocL y9 (grow (row++row'))])∧row'.length=m∧∀(i:Nat) (v:Sl Ze),row'[i]? = some v→wp o r n (key+(i:Int)) v:=by
 have hdm:=Lz3 hd;have hr:=F.rng d hdm;have a3:atD (enV d) 3=I6 d.high:=rfl;intro m
 induction m with
 |zero=>intro key row hk _ _;have h1:decide (key≤d.high)=false:=decide_eq_false (by omega);refine⟨[],zl ?_,rfl,fun i v h=>by simp at h⟩;simp only[zig,zi,zp,a3,xE,zb,h1,zg,Yzc,if_false,YzE]
 |succ m ih=>
  intro key row hk hlo hl;have h1:decide (key≤d.high)=true:=decide_eq_true (by omega);have hin:inR o ⟨(n:Int),key⟩=true:=xR.2 ⟨n,d,rfl,hd,hlo,by show key≤d.high;omega⟩;obtain⟨S,s1,s2,s3,s4⟩:=t57 F k ⟨(n:Int),key⟩ hin;have hSl:=vE F s2 s4;obtain⟨v,c1,c2,c3⟩:=zmI F T hT H S s4 hSl S 0 none rfl (by simp;omega);have ea:zf .add (I6 key) (I6 1)=some (I6 (key+1)):=yf;obtain⟨w,u,f1,f2,f3,f4⟩:=zb8 v (by simp at c2;omega) fun p hp=>by
   rcases (c3 p).1 hp with h|⟨c',_,d',s',j,t,_,_,_,_,h⟩
   ·rw[qb]at h;cases h
   ·exact F.sml _ _ p h
  have hul:u.els.length≤v.els.length:=j8 f2 fun z hz=>(f3 z).1 hz;simp at c2;have hc:wp o r n key u:=⟨by omega,f2,fun y=>(f3 y).trans ((c3 y).trans (by
   simp only[qb,Yzs,false_or]
   constructor
   ·rintro⟨c,hc,h⟩;exact⟨c,(s3 c).1 hc,h⟩
   ·rintro⟨c,hc,h⟩;exact⟨c,(s3 c).2 hc,h⟩))⟩
  unfold enO ym at s1;have hgS:(grow S).els.length=S.length:=by rw[zn]
  have body:zig (D (k+3)) (enV d) (St o.name) (enL 6 enR o.ranks) (enL 5 enV o.divs) (enL 5 enC o.cpls) (enL 1 enU r.stops) (U64 r.cpls) (U64 r.off) [I6 (n:Int)] [some (T.map yl)] [some xs] n [I6 key] [ocL y9 (grow row)]=some (.normal,[I6 (key+1)],[ocL y9 (grow (row++[u]))]):=by
   simp only[zig,zi,zp,a3,xE,zb,h1,zg,if_true,s1,zR,zA,hgS];rw[show (I6 0:DV)=I6 ((0:Nat):Int) from rfl,show (none:OC)=ocL zX none from rfl,c1];simp only[zt,Yzj,Yza,zp,f1,zb,zfw hx,yF,xj,zc,zg,Yzn,zY,ztR (show row.length≤1000 by omega),ea,zU,show zuf=jH from rfl];rcases f4 with⟨g1,g2⟩|⟨g1,g2⟩
   ·have:((xt w:Nat):Int)<2:=by omega
    rw[Yze this,g2,zaN]
   ·have:¬((xt w:Nat):Int)<2:=by omega
    rw[Yzb this];rcases g2 with g2|g2
    ·rw[g2];simp only[zt,Yzj,Yza,zp,yX,zaN]
    ·rw[g2];simp only[uj,zi,zaN]
  obtain⟨row',q1,q2,q3⟩:=ih (key+1) (row++[u]) (by omega) (by omega) (by simp;omega);refine⟨u::row',by rw[zx body,q1];simp,by simp[q2],fun i w h=>?_⟩;cases i with
  |zero=>
   simp only[Yzi,Option.some.injEq]at h;subst h
   simpa using hc
  |succ i=>
   have:=q3 i w (by simpa using h)
   rwa [show key+1+(i:Int)=key+((i+1:Nat):Int) by omega]at this
theorem zmD(k:Nat)(U:List (List (Sl Ze)))(hU:U.length=o.divs.els.length)(HU:Rows o (zjZ o r) U):∀(l:List Zj) (T:List (List (Sl Ze))),o.divs.els.drop T.length=l→Rows o (wp o r) T→
  ∃T',zB (zih (D (k+3)) (I6 (o.divs.els.length:Int)) (enL 5 enV o.divs) (St o.name) (enL 6 enR o.ranks) (enL 5 enC o.cpls) (enL 1 enU r.stops) (U64 r.cpls) (U64 r.off) [some (U.map yl)]) [I6 (T.length:Int)] [some (T.map yl++List.replicate l.length [.nils])]=some (.exit 6,[],[some (T'.map yl)])∧T'.length=T.length+l.length∧Rows o (wp o r) T':=by
 intro l
 induction l with
 |nil=>intro T h H;refine⟨T,zl ?_,by simp,H⟩;simp only[zih,zi,zp,zc,zb,yK (zH h),zg,Yzc,if_false,Yzx,List.replicate_zero,YzE]
 |cons d l ih=>
  intro T h H;have h1:=zZ h;have hdl:=F.dl;have hd:=zJ h;have hr:=F.rng d (Lz3 hd);have hx:T.length<(T.map yl++List.replicate (l.length+1) [DV.nils]).length:=by simp
  obtain⟨row,c1,c2,c3⟩:=zmJ F k T.length d hd U hU HU _ hx (d.high-d.low+1).toNat d.low [] (by omega) (Int.le_refl _) (by simp;omega);have ea:zf .add (I6 (T.length:Int)) (I6 1)=some (I6 ((T.length+1:Nat):Int)):=yf;have iv:yy 5 (enL 5 enV o.divs) (I6 (T.length:Int))=some (enV d):=by rw[yb,hd];rfl
  have a2:atD (enV d) 2=I6 d.low:=rfl;have body:zih (D (k+3)) (I6 (o.divs.els.length:Int)) (enL 5 enV o.divs) (St o.name) (enL 6 enR o.ranks) (enL 5 enC o.cpls) (enL 1 enU r.stops) (U64 r.cpls) (U64 r.off) [some (U.map yl)] [I6 (T.length:Int)] [some (T.map yl++List.replicate (l.length+1) [.nils])]=some (.normal,[I6 (((T++[row]).length:Nat):Int)],[some ((T++[row]).map yl++List.replicate l.length [.nils])]):=by simp only[zih,zi,zp,zc,zb,x4 h1,zg,if_true,iv,zfw hx];rw[show vZ (some (T.map yl++List.replicate (l.length+1) [DV.nils])) T.length=some [DV.nils] from zoQ T l.length];simp only[zb,yE,gdN,a2];rw[show (none:OC)=ocL y9 (grow []) from rfl,c1];simp only[zt,zp,yX,YzK,zxe,zb,Yzj,Yza,ea,znS,Yzk,Yyr]
  obtain⟨T',q1,q2,q3⟩:=ih (T++[row]) (by rw[Yzk,Yyr];exact zw h) (H.snoc hd (by rw[c2];omega) c3);refine⟨T',by rw[Yzg,zx body,q1],by simp at q2 ⊢;omega,q3⟩
theorem t29(k:Nat):∃T:List (List (Sl Ze)),D (k+5) 29 [SA (enO o),SA (ym r)]=some (S1 (.lst 1 (T.map yl)))∧T.length=o.divs.els.length∧Rows o (wp o r) T:=by have hdl:=F.dl;obtain⟨U,u1,u2,u3⟩:=zmH F k o.divs.els [] rfl ⟨fun n d row _ h=>by simp at h⟩;obtain⟨T,t1,t2,t3⟩:=zmD F (k+1) U (by simpa using u2) u3 o.divs.els [] rfl ⟨fun n d row _ h=>by simp at h⟩;refine⟨T,?_,by simpa using t2,t3⟩;simp only[Yzx,List.map_nil,YzK]at u1 t1;unfold enO ym;rw[D29];unfold P29;simp only[zA,zb,zx5 (show o.divs.els.length≤1000 by omega)];rw[show (I6 0:DV)=I6 ((0:Nat):Int) from rfl,u1];simp only[zt,Yzj,Yza];rw[t1];simp only[zt,Yzj,Yza,zp,ut]
end
end Go.Proofs.Tryz.Kn
end
section
namespace Go.Proofs.Tryz.Kn
open Go Go.CE Go.PE
theorem l37(a b:Sl Ze)(hl:a.els.length≤1000)(hab:a.els.length=b.els.length):∀(r s:List Ze) (i:Nat),a.els.drop i=r→b.els.drop i=s→
  zB (zqZ (I6 (a.els.length:Int)) (enL 2 zX a) (enL 2 zX b)) [I6 (i:Int)] []=some (if r=s then(.exit 0,[],[]) else(.ret,[Bo false],[])):=by
 intro r
 induction r with
 |nil=>
  intro s i h g;have h1:=zH h;have:s=[]:=by rw[←g,List.drop_eq_nil_iff];omega
  rw[this,Yze rfl];refine zl ?_;simp only[zqZ,zi,zc,zb,yK h1,zg];rfl
 |cons x r ih=>
  intro s i h g;have h1:=zZ h;cases s with
  |nil=>have:=zH g;omega
  |cons y s=>
   have ea:zf .add (I6 (i:Int)) (I6 1)=some (I6 ((i+1:Nat):Int)):=yf;have eq:=zaH x y;have body:zqZ (I6 (a.els.length:Int)) (enL 2 zX a) (enL 2 zX b) [I6 (i:Int)] []=some (if x=y then(.normal,[I6 ((i+1:Nat):Int)],[]) else(.ret,[Bo false],[])):=by simp only[zqZ,zi,zc,zb,x4 h1,zg,if_true,zO h,zO g,zX,yE,xc,eq,ea];by_cases hz:x=y<;>simp[hz]
   by_cases hc:x=y
   ·rw[Yze hc]at body;rw[zx body,ih s (i+1) (zw h) (zw g)];simp[hc]
   ·rw[Yzb hc]at body;rw[zG body];simp[hc]
theorem t37(k:Nat)(a b:Sl Ze)(hl:a.els.length≤1000):D (k+1) 37 [S1 (enL 2 zX a),S1 (enL 2 zX b)]=some (S1 (Bo (decide (a.els=b.els)))):=by
 rw[D37];unfold P37;simp only[zA,zb,yg,zg];by_cases h:a.els.length=b.els.length
 ·have l:=l37 a b hl h a.els b.els 0 rfl rfl;have e:((a.els.length:Int)==(b.els.length:Int))=true:=by simp[h]
  rw[e];simp only[Yzw,Yzc,if_false];rw[show (I6 0:DV)=I6 ((0:Nat):Int) from rfl,l];by_cases hc:a.els=b.els
  ·rw[Yze hc,decide_eq_true hc];rfl
  ·rw[Yzb hc,decide_eq_false hc];rfl
 ·have e:((a.els.length:Int)==(b.els.length:Int))=false:=by simp;omega
  have:a.els≠b.els:=fun e=>h (by rw[e]);rw[e,decide_eq_false this];simp
def zlC(H:Sl Ze→Sl Ze→Bool):Nat→List (Sl Ze)→List (Sl Ze)→Option Nat
 |i,x::a,y::b=>if H x y=true then zlC H (i+1) a b else some i
 |_,_,_=>none
def zeV(H:Sl Ze→Sl Ze→Bool):Nat→List (List (Sl Ze))→List (List (Sl Ze))→Option (Nat×Nat)
 |n,x::a,y::b=>match zlC H 0 x y with
  |some i=>some (n,i)
  |none=>zeV H (n+1) a b
 |_,_,_=>none
theorem zow{A:List (List (Sl Ze))}{n:Nat}{x:List (Sl Ze)}(h:A[n]? = some x):yy 1 (.lst 1 (A.map yl)) (I6 (n:Int))=some [enL 1 y9 (grow x)]:=by refine (yb (f:=yl) (st:=1) .i64 (some A) n).trans ?_;rw[yn,h];rfl
theorem zxJ(A:List (List (Sl Ze))):yV (.lst 1 (A.map yl))=some (I6 (A.length:Int)):=zA (f:=yl) (st:=1) (some A)
structure Twin (o:Org) (A B:List (List (Sl Ze))):Prop where
 al:A.length=o.divs.els.length
 bl:B.length=o.divs.els.length
 row:∀(n:Nat) (d:Zj) (x y:List (Sl Ze)),o.divs.els[n]? = some d→A[n]? = some x→B[n]? = some y→x.length=y.length∧x.length≤9∧(∀v∈x,v.els.length≤1000)∧(∀v∈y,v.els.length≤1000)
section
variable {o:Org} {A B:List (List (Sl Ze))} (W:Twin o A B) (hdl:o.divs.els.length≤3) (hrng:∀d∈o.divs.els,0≤d.low∧d.low≤127) {f:DV} {H:Sl Ze→Sl Ze→Bool} {k:Nat}
 (hf:∀x y:Sl Ze,x.els.length≤1000→y.els.length≤1000→zeW (D k) f [S1 (enL 2 zX x),S1 (enL 2 zX y)]=some (S1 (Bo (H x y))))
include W hrng hf in
theorem zpj(n:Nat)(d:Zj)(x y:List (Sl Ze))(hd:o.divs.els[n]? = some d)(hx:A[n]? = some x)(hy:B[n]? = some y)(c0 c1:DV):∀(r s:List (Sl Ze)) (i:Nat),x.drop i=r→y.drop i=s→
  zB (zib (D k) (I6 (x.length:Int)) (.lst 1 (A.map yl)) [I6 (n:Int),c0,c1] (.lst 1 (B.map yl)) f (enL 5 enV o.divs)) [I6 (i:Int),c0,c1] []=some (match zlC H i r s with
   |none=>(.exit 2,[c0,c1],[])
   |some j=>(.ret,[Bo false,I6 (n:Int),I6 (d.low+(j:Int))],[])):=by
 obtain⟨w1,w2,w3,w4⟩:=W.row n d x y hd hx hy;obtain⟨r1,r2⟩:=hrng d (Lz3 hd);have iv:yy 5 (enL 5 enV o.divs) (I6 (n:Int))=some (enV d):=by rw[yb,hd];rfl
 have a2:atD (enV d) 2=I6 d.low:=rfl;have ja:=zow hx;have jb:=zow hy;intro r
 induction r with
 |nil=>intro s i h g;have h1:=zH h;unfold zlC;refine zl ?_;simp only[zib,zi,yU,zc,zb,yK h1,zg];rfl
 |cons v r ih=>
  intro s i h g;have h1:=zZ h;cases s with
  |nil=>have:=zH g;omega
  |cons w s=>
   have hv:=w3 v (Lz3 (zJ h));have hw:=w4 w (Lz3 (zJ g));have ea:zf .add (I6 (i:Int)) (I6 1)=some (I6 ((i+1:Nat):Int)):=yf;have el:zf .add (I6 d.low) (I6 (i:Int))=some (I6 (d.low+(i:Int))):=yf;have ia:yy 1 (enL 1 y9 (grow x)) (I6 (i:Int))=some [enL 2 zX v]:=by rw[yb,zn,zJ h];rfl
   have ib:yy 1 (enL 1 y9 (grow y)) (I6 (i:Int))=some [enL 2 zX w]:=by rw[yb,zn,zJ g];rfl
   have body:zib (D k) (I6 (x.length:Int)) (.lst 1 (A.map yl)) [I6 (n:Int),c0,c1] (.lst 1 (B.map yl)) f (enL 5 enV o.divs) [I6 (i:Int),c0,c1] []=some (if H v w=true then(.normal,[I6 ((i+1:Nat):Int),c0,c1],[]) else(.ret,[Bo false,I6 (n:Int),I6 (d.low+(i:Int))],[])):=by simp only[zib,zi,yU,zc,zb,x4 h1,zg,if_true,ja,jb,yE,ia,ib,hf v w hv hw,zR,yI,iv,a2,el,ea];cases H v w<;>rfl
   unfold zlC;by_cases hc:H v w=true
   ·rw[Yze hc]at body ⊢;rw[zx body,ih s (i+1) (zw h) (zw g)]
   ·rw[Yzb hc]at body ⊢;rw[zG body]
include W hdl hrng hf in
theorem zmG:∀(a b:List (List (Sl Ze))) (n:Nat),A.drop n=a→B.drop n=b→
  zB (znj (D k) (I6 (A.length:Int)) (.lst 1 (A.map yl)) (.lst 1 (B.map yl)) f (enL 5 enV o.divs)) [I6 (n:Int),I6 0,I6 0] []=some (match zeV H n a b with
   |none=>(.exit 0,[I6 0,I6 0],[])
   |some (m,j)=>(.ret,[Bo false,I6 (m:Int),I6 (zfI o m+(j:Int))],[])):=by
 have wa:=W.al;have wb:=W.bl;intro a
 induction a with
 |nil=>intro b n h g;have h1:=zH h;unfold zeV;refine zl ?_;simp only[znj,zi,yU,zc,zb,yK h1,zg];rfl
 |cons x a ih=>
  intro b n h g;have h1:=zZ h;cases b with
  |nil=>have:=zH g;omega
  |cons y b=>
   obtain⟨d,hd⟩:∃d,o.divs.els[n]? = some d:=⟨_,Lz5 (by omega)⟩;have ea:zf .add (I6 (n:Int)) (I6 1)=some (I6 ((n+1:Nat):Int)):=yf;have hl:zfI o n=d.low:=by unfold zfI;rw[hd]
   have lp:=zpj W hrng hf n d x y hd (zJ h) (zJ g) (I6 0) (I6 0) x y 0 rfl rfl;have ja:=zow (zJ h);have pl:yV (enL 1 y9 (grow x))=some (I6 (x.length:Int)):=by rw[zA,zn]
   unfold zeV;cases hr:zlC H 0 x y with
   |some j=>rw[hr]at lp;refine zG ?_;simp only[znj,zi,yU,zc,zb,x4 h1,zg,if_true,ja,yE,pl];rw[show (I6 0:DV)=I6 ((0:Nat):Int) from rfl]at lp ⊢;rw[lp];simp only[uj,zi,yU,hl]
   |none=>
    rw[hr]at lp;have body:znj (D k) (I6 (A.length:Int)) (.lst 1 (A.map yl)) (.lst 1 (B.map yl)) f (enL 5 enV o.divs) [I6 (n:Int),I6 0,I6 0] []=some (.normal,[I6 ((n+1:Nat):Int),I6 0,I6 0],[]):=by simp only[znj,zi,yU,zc,zb,x4 h1,zg,if_true,ja,yE,pl];rw[show (I6 0:DV)=I6 ((0:Nat):Int) from rfl]at lp ⊢;rw[lp];simp only[zt,Yzj,Yza,ea,zb,zi,yU]
    rw[zx body,ih b (n+1) (zw h) (zw g)]
def spot(o:Org):Option (Nat×Nat)→y5
 |none=>⟨0,0⟩
 |some (m,j)=>⟨(m:Int),zfI o m+(j:Int)⟩
include W hdl hrng hf in
theorem t36:D (k+1) 36 [SA (enO o),S1 (.lst 1 (A.map yl)),S1 (.lst 1 (B.map yl)),S1 f]=some (.tup [.agg [I6 (spot o (zeV H 0 A B)).rank,I6 (spot o (zeV H 0 A B)).num],.one (Bo (zeV H 0 A B).isNone)]):=by
 have l:=zmG W hdl hrng hf A B 0 rfl rfl;have pl:=zxJ A;unfold enO;rw[D36];unfold P36;simp only[pl,zb];rw[show (I6 0:DV)=I6 ((0:Nat):Int) from rfl]at l ⊢;rw[l];cases zeV H 0 A B with
 |none=>rfl
 |some x=>rfl
end
theorem zhQ{H:Sl Ze→Sl Ze→Bool}:∀{a b:List (Sl Ze)} (i:Nat),a.length=b.length→(zlC H i a b=none↔∀(j:Nat) (x y:Sl Ze),a[j]? = some x→b[j]? = some y→H x y=true)
 | [],[],i,_=>by simp[zlC]
 |x::a,y::b,i,h=>by
  have ih:=zhQ (H:=H) (a:=a) (b:=b) (i+1) (by simpa using h);unfold zlC;by_cases hc:H x y=true
  ·rw[Yze hc,ih]
   constructor
   ·intro g j x' y' h1 h2;cases j with
    |zero=>simp only[Yzi,Option.some.injEq]at h1 h2;rw[←h1,←h2];exact hc
    |succ j=>exact g j x' y' (by simpa using h1) (by simpa using h2)
   ·exact fun g j x' y' h1 h2=>g (j+1) x' y' (by simpa using h1) (by simpa using h2)
  ·rw[Yzb hc];exact⟨fun g=>(by cases g),fun g=>absurd (g 0 x y rfl rfl) hc⟩
theorem zhO{H:Sl Ze→Sl Ze→Bool}:∀{A B:List (List (Sl Ze))} (n:Nat),A.length=B.length→(∀(m:Nat) (a b:List (Sl Ze)),A[m]? = some a→B[m]? = some b→a.length=b.length)→
  (zeV H n A B=none↔∀(m:Nat) (a b:List (Sl Ze)),A[m]? = some a→B[m]? = some b→∀(j:Nat) (x y:Sl Ze),a[j]? = some x→b[j]? = some y→H x y=true)
 | [],[],n,_,_=>by simp[zeV]
 |a::A,b::B,n,h,g=>by
  have ih:=zhO (H:=H) (A:=A) (B:=B) (n+1) (by simpa using h) fun m x y h1 h2=>g (m+1) x y (by simpa using h1) (by simpa using h2);have ir:=zhQ (H:=H) (a:=a) (b:=b) 0 (g 0 a b rfl rfl);unfold zeV;cases hr:zlC H 0 a b with
  |none=>
   rw[hr]at ir;simp only[ih]
   constructor
   ·intro q m x y h1 h2;cases m with
    |zero=>simp only[Yzi,Option.some.injEq]at h1 h2;rw[←h1,←h2];exact ir.1 rfl
    |succ m=>exact q m x y (by simpa using h1) (by simpa using h2)
   ·exact fun q m x y h1 h2=>q (m+1) x y (by simpa using h1) (by simpa using h2)
  |some i=>
   rw[hr]at ir
   constructor
   ·intro q;cases q
   ·intro q;have:=ir.2 (q 0 a b rfl rfl);cases this
section
variable {o:Org} {r s:Reg} {A B:List (List (Sl Ze))}
theorem zBU(F:Fit o r)(ha:A.length=o.divs.els.length)(hb:B.length=o.divs.els.length)(HA:Rows o (wp o r) A)(HB:Rows o (wp o s) B):Twin o A B:=
 ⟨ha, hb, fun n d x y hd hx hy => by
  obtain⟨q1,q2⟩:=HA.row n d x hd hx;obtain⟨p1,p2⟩:=HB.row n d y hd hy;have:=F.rng d (Lz3 hd);refine⟨by omega,by omega,fun v hv=>?_,fun v hv=>?_⟩
  ·obtain⟨i,hi⟩:=Yz8 hv;exact(q2 i v hi).1
  ·obtain⟨i,hi⟩:=Yz8 hv;exact(p2 i v hi).1⟩
theorem zhS(F:Fit o r)(ha:A.length=o.divs.els.length)(hb:B.length=o.divs.els.length)(HA:Rows o (wp o r) A)(HB:Rows o (wp o s) B){H:Sl Ze→Sl Ze→Bool}{Q:y5→Prop}
  (hq:∀(n:Nat) (key:Int) (x y:Sl Ze),wp o r n key x→wp o s n key y→(H x y=true↔Q ⟨(n:Int),key⟩)):zeV H 0 A B=none↔∀c,inR o c=true→Q c:=by
 have W:=zBU F ha hb HA HB;rw[zhO 0 (by omega) fun m x y h1 h2=>by obtain⟨d,hd⟩:∃d,o.divs.els[m]? = some d:=⟨_,Lz5 (by have:=(Lz0.1 h1).1;omega)⟩;exact(W.row m d x y hd h1 h2).1]
 constructor
 ·intro h c hc;obtain⟨n,d,e1,e2,e3,e4⟩:=xR.1 hc;have hn:=(Lz0.1 e2).1;obtain⟨a,hA⟩:∃a,A[n]? = some a:=⟨_,Lz5 (by omega)⟩;obtain⟨b,hB⟩:∃b,B[n]? = some b:=⟨_,Lz5 (by omega)⟩;obtain⟨q1,q2⟩:=HA.row n d a e2 hA;obtain⟨p1,p2⟩:=HB.row n d b e2 hB;obtain⟨j,hj⟩:∃j:Nat,c.num=d.low+(j:Int):=⟨(c.num-d.low).toNat,by omega⟩;obtain⟨x,hx⟩:∃x,a[j]? = some x:=⟨_,Lz5 (by omega)⟩;obtain⟨y,hy⟩:∃y,b[j]? = some y:=⟨_,Lz5 (by omega)⟩;have:=(hq n _ x y (q2 j x hx) (p2 j y hy)).1 (h n a b hA hB j x y hx hy);rw[←hj,←e1]at this;exact this
 ·intro h n a b hA hB j x y hx hy;obtain⟨d,hd⟩:∃d,o.divs.els[n]? = some d:=⟨_,Lz5 (by have:=(Lz0.1 hA).1;omega)⟩;obtain⟨q1,q2⟩:=HA.row n d a hd hA;obtain⟨p1,p2⟩:=HB.row n d b hd hB;have hj:=(Lz0.1 hx).1;refine (hq n _ x y (q2 j x hx) (p2 j y hy)).2 (h _ (xR.2 ⟨n,d,rfl,hd,?_,?_⟩))
  ·show d.low≤d.low+(j:Int);omega
  ·show d.low+(j:Int)≤d.high;omega
theorem zcz{n:Nat}{key:Int}{x y:Sl Ze}(hx:wp o r n key x)(hy:wp o s n key y):x.els=y.els↔∀z,zdY o r ⟨(n:Int),key⟩ z↔zdY o s ⟨(n:Int),key⟩ z:=by
 constructor
 ·intro h z;rw[←hx.2.2 z,←hy.2.2 z,h]
 ·exact fun h=>zgD _ _ hx.2.1 hy.2.1 fun z=>by rw[hx.2.2 z,hy.2.2 z,h z]
end
def Alike(o:Org)(r s:Reg):Prop:=∀c,inR o c=true→∀z,zdY o r c z↔zdY o s c z
section
variable {o:Org} (ho:o.ok) (h0:vM o=0) {r s:Reg} (F:Fit o r) (G:Fit o s) (hr:jC o r=0) (hs:jC o s=0)
include h0 hr in
theorem zCk:zls o [r]=0:=by unfold zls;rw[Yzb (by rw[h0];simp),zaY,Yzb (by rw[hr];simp)];rfl
include h0 hr hs in
theorem zEt:zls o [r,s]=0:=by unfold zls;rw[Yzb (by rw[h0];simp),zaY,Yzb (by rw[hr];simp),zaY,Yzb (by rw[hs];simp)];rfl
include ho h0 F G hr hs in
theorem x12(k:Nat):∃(c:y5) (b:Bool),D (k+12) 12 [SA (enO o),SA (ym r),SA (ym s)]=some (.tup [.agg [I6 c.rank,I6 c.num],.one (Bo b),.one (I6 0)])∧(b=true↔Alike o r s)∧∃A B,A.length=o.divs.els.length∧B.length=o.divs.els.length∧Rows o (wp o r) A∧Rows o (wp o s) B∧c=spot o (zeV (fun x y=>decide (x.els=y.els)) 0 A B)∧b=(zeV (fun x y=>decide (x.els=y.els)) 0 A B).isNone:=by
 obtain⟨A,a1,a2,a3⟩:=t29 F (k+6);obtain⟨B,b1',b2,b3⟩:=t29 G (k+6);have W:=zBU F a2 b2 a3 b3;have c:=t36 W F.dl (fun d hd=>by have:=F.rng d hd;omega) (f:=.fn 37 []) (H:=fun x y=>decide (x.els=y.els)) (k:=k+10) fun x y hx _=>t37 (k+9) x y hx;refine⟨spot o (zeV (fun x y=>decide (x.els=y.els)) 0 A B),(zeV (fun x y=>decide (x.els=y.els)) 0 A B).isNone,?_,?_,A,B,a2,b2,a3,b3,rfl,rfl⟩
 ·have cc:=t28 k o ho (some [r,s]) (by simp);rw[yn,zEt h0 hr hs]at cc;unfold enO ym at a1 b1' ⊢;unfold enO at cc c;rw[D12];unfold P12;rw[show DV.lst 3 [[enL 1 enU r.stops,U64 r.cpls,U64 r.off],[enL 1 enU s.stops,U64 s.cpls,U64 s.off]]=enL 3 ym (some [r,s]) from rfl,cc];simp only[zgx,yg,zb,YzD,Yzw,zg,Yzc,if_false,a1,b1',zR,c];rfl
 ·rw[Option.isNone_iff_eq_none,zhS F a2 b2 a3 b3 (Q:=fun c=>∀z,zdY o r c z↔zdY o s c z) fun n key x y hx hy=>by rw[decide_eq_true_iff];exact zcz hx hy];rfl
include ho h0 F G hr hs in
theorem t12(k:Nat):∃(c:y5) (b:Bool),D (k+12) 12 [SA (enO o),SA (ym r),SA (ym s)]=some (.tup [.agg [I6 c.rank,I6 c.num],.one (Bo b),.one (I6 0)])∧(b=true↔Alike o r s):=by obtain⟨c,b,h1,h2,_⟩:=x12 ho h0 F G hr hs k;exact⟨c,b,h1,h2⟩
end
end Go.Proofs.Tryz.Kn
end
