/-
  Lemmas. No condition.
-/
import Derived.Test.YtkgdjnaidkhniaaGreatDoorVd
import Derived.Test.YtkgdjnaidkhniaaGreatDoorZj
import Derived.Test.YtkgdjnaidkhniaaGreatDoorZk
import Derived.Test.YtkgdjnaidkhniaaGreatDoorProg
set_option linter.unusedSimpArgs false
set_option linter.unusedVariables false
noncomputable section
namespace Go.Proofs.Tryz.Kn
open Go Go.CE Go.PE
abbrev prog:Program:=Tryz.prog
def zmU:Nat->Bool:=fun g=>match g with|70=>true|67=>true|88=>true|86=>true|87=>true|105=>true|106=>true|41=>true|42=>true|43=>true|54=>true|79=>true|49=>true|_=>false
abbrev redI:Red:=zDv
def an0:Nat->Option LA:=fun _=>none
def zFs:Nat->List PA->Nat->Nat->Option LA:=fun _ _ _ _=>none
abbrev pF(O:Orc)(an:Nat->Option LA)(g:Nat)(args:List DA):Option DA:=zxk prog O zmU (inl prog O zmU zFs redI 6) an g args
def an5:Nat->Option LA:=fun i=>match i with|0=>some ⟨[.slot 12,.slot 10,.cell 3 0,.cell 3 1,.cell 3 2],[],[(3,3)],[],[.slot 10,.cell 3 0,.cell 3 1,.cell 3 2],[],[.cell 3 0,.cell 3 1,.cell 3 2],[],[]⟩|_=>none
def an8:Nat->Option LA:=fun i=>match i with|0=>some ⟨[.slot 4,.slot 3],[],[],[],[.slot 3],[],[],[],[]⟩|_=>none
def zB7(a:DV)(b:List DV)(_j:List OC):Option PX:=za (zV a) fun c=>za (zc .lss (zf b 0) c) fun d=>ifB d (za (yb 4 a (zf b 0)) fun e=>za (zV (atD e 3)) fun f=>za (zc .add (zf b 1) f) fun g=>za (zc .add (zf b 0) (I6 1)) fun h=>some (.normal,[h,g],[])) (some (.exit 0,[zf b 1],[]))
def P8(O:Orc)(a b c d f h j _m _r _s _w _y _z _aa:DV):Option DA:=b1 (O 31 [SA [a,b,c,d,f,h]]) fun g=>za (zbG g) fun k=>ifB k (some (S1 (.bool false))) (za (zV j) fun l=>za (zc .gtr l (I6 3)) fun m=>ifB m (some (S1 (.bool false))) (za (zV b) fun n=>za (zV c) fun o=>za (zc .add n o) fun p=>yP (zS (zB7 b) [I6 0,p] []) (fun q e _r=>bif Nat.beq q 0 then (za (zc .leq (zf e 0) (I6 7)) fun s=>some (S1 s)) else(none)) (fun _e _r=>none)))
theorem p8(O:Orc)(a b c d f h j m r s w y z aa:DV):pF O an8 8 [SA [a,b,c,d,f,h,j,m,r,s,w,y,z,aa]]=P8 O a b c d f h j m r s w y z aa:=by kernel_rfl
def an9:Nat->Option LA:=fun i=>match i with|0=>some ⟨[.slot 6,.cell 4 0,.cell 4 1,.cell 4 2,.cell 4 3,.cell 4 4,.cell 4 5,.cell 4 6,.cell 4 7,.cell 4 8,.cell 4 9,.cell 4 10,.cell 4 12,.cell 4 13,.cell 4 14,.cell 4 15,.cell 4 16],[(.cell 4 11,3)],[(4,17)],[],[.cell 4 0,.cell 4 1,.cell 4 2,.cell 4 3,.cell 4 4,.cell 4 5,.cell 4 6,.cell 4 7,.cell 4 8,.cell 4 9,.cell 4 10,.cell 4 12,.cell 4 13,.cell 4 14,.cell 4 15,.cell 4 16],[(.cell 4 11,3)],[.cell 4 0,.cell 4 1,.cell 4 2,.cell 4 3,.cell 4 4,.cell 4 5,.cell 4 6,.cell 4 7,.cell 4 8,.cell 4 9,.cell 4 10,.cell 4 12,.cell 4 13,.cell 4 14,.cell 4 15,.cell 4 16],[(.cell 4 11,3)],[]⟩|_=>none
def ztf(O:Orc)(a:DV)(d:List DS)(b:List DV)(e:List OC):Option PX:=za (zV a) fun g=>za (zc .lss (zf b 0) g) fun h=>ifB h (za (yb 5 a (zf b 0)) fun c=>bA 3 (O 14 [SA [atD (dsA (yR d 0)) 0,atD (dsA (yR d 0)) 1,atD (dsA (yR d 0)) 2,atD (dsA (yR d 0)) 3],SA [atD c 0,atD c 1,atD c 2,atD c 3,atD c 4]]) fun f=>gd (fits 40 (xH (yf e 0)+1)) (za (zc .add (zf b 0) (I6 1)) fun j=>some (.normal,[j,zf b 1,zf b 2,zf b 3,zf b 4,zf b 5,zf b 6,zf b 7,zf b 8,zf b 9,zf b 10,zf b 11,zf b 12,zf b 13,zf b 14,zf b 15,zf b 16],[some (z5 (yf e 0)++[[atD f 0,atD f 1,atD f 2]])]))) (some (.exit 0,[zf b 1,zf b 2,zf b 3,zf b 4,zf b 5,zf b 6,zf b 7,zf b 8,zf b 9,zf b 10,zf b 11,zf b 12,zf b 13,zf b 14,zf b 15,zf b 16],[yf e 0]))
def P9(O:Orc)(a b c d f h j m r s w y z aa:DV):Option DA:=bT [some 4,some 3] (O 32 [SA [a,b,c,d,f,h]]) fun g=>za (zc .rem (atD [m,r] 0) (U8 4)) fun l=>za (zx .i64 l) fun n=>za (zc .rem (atD [m,r] 1) (U8 8)) fun o=>za (zx .i64 o) fun p=>za (zc .rem s (U8 3)) fun q=>za (zx .i64 q) fun t=>za (zc .rem (atD [w,y,z,aa] 0) (U8 8)) fun v=>za (zx .i64 v) fun x=>za (zc .rem (atD [w,y,z,aa] 1) (U8 8)) fun A=>za (zx .i64 A) fun B=>za (zc .rem (atD [w,y,z,aa] 2) (U8 8)) fun C=>za (zx .i64 C) fun E=>za (zc .rem (atD [w,y,z,aa] 3) (U8 8)) fun F=>za (zx .i64 F) fun G=>yP (zS (ztf O j g) [I6 0,atD (dsA (yR g 0)) 0,atD (dsA (yR g 0)) 1,atD (dsA (yR g 0)) 2,atD (dsA (yR g 0)) 3,atD (dsA (yR g 1)) 0,atD (dsA (yR g 1)) 1,atD (dsA (yR g 1)) 2,n,p,I6 1,I6 5,t,x,B,E,G] [none]) (fun H e k=>bif Nat.beq H 0 then (some (SA [zf e 0,zf e 1,zf e 2,zf e 3,zf e 4,zf e 5,zf e 6,zf e 7,zf e 8,zf e 9,zf e 10,mkL 3 (yf k 0),zf e 11,zf e 12,zf e 13,zf e 14,zf e 15])) else(none)) (fun _e _k=>none)
theorem p9(O:Orc)(a b c d f h j m r s w y z aa:DV):pF O an9 9 [SA [a,b,c,d,f,h,j,m,r,s,w,y,z,aa]]=P9 O a b c d f h j m r s w y z aa:=by kernel_rfl
def P10(O:Orc)(a b c d f h j m r s w y z aa ab ac ad e:DV):Option DA:=b1 (O 25 [SA [a,b,c,d,f,h,j,m,r,s,w,y,z,aa,ab,ac,ad]]) fun g=>za (zc .neq g (I6 0)) fun n=>ifB n (some (.tup [.one (.bool false),.one (.bool false),.one g])) (b1 (O 33 [SA [a,b,c,d,f,h,j,m,r,s,w,y,z,aa,ab,ac,ad],S1 e]) fun k=>za (zc .neq k (I6 0)) fun o=>ifB o (some (.tup [.one (.bool false),.one (.bool false),.one k])) (bT [none,none] (O 34 [SA [a,b,c,d,f,h,j,m,r,s,w,y,z,aa,ab,ac,ad],S1 e]) fun l=>some (.tup [.one (dsO (yR l 0)),.one (dsO (yR l 1)),.one (I6 0)])))
theorem p10(O:Orc)(a b c d f h j m r s w y z aa ab ac ad a1:DV):pF O an0 10 [SA [a,b,c,d,f,h,j,m,r,s,w,y,z,aa,ab,ac,ad],S1 a1]=P10 O a b c d f h j m r s w y z aa ab ac ad a1:=by kernel_rfl
def zFN:Nat->Option LA:=fun i=>match i with|0=>some ⟨[.slot 6,.cell 3 1,.cell 3 2],[(.cell 3 0,1)],[(3,3)],[],[.cell 3 1,.cell 3 2],[(.cell 3 0,1)],[.cell 3 1,.cell 3 2],[(.cell 3 0,1)],[]⟩|_=>none
def zkT(a b c d f h:DV)(e:List DV)(g:List OC):Option PX:=za (zV a) fun j=>za (zc .lss (zf e 0) j) fun k=>ifB k (za (zc .rem (zf e 0) (I6 3)) fun l=>za (uc 5 l) fun m=>za (zx .u64 (atD [b,c,d,f,h] m)) fun n=>za (yb 5 a (zf e 0)) fun o=>za (zV (atD o 4)) fun p=>za (zx .u64 p) fun q=>za (zq true (U64 1) q) fun r=>za (zc .sub r (U64 1)) fun s=>za (zc .and n s) fun t=>gd (fits 8 (xH (yf g 0)+1)) (za (zc .add (zf e 0) (I6 1)) fun v=>some (.normal,[v,zf e 1,zf e 2],[some (z5 (yf g 0)++[[t]])]))) (some (.exit 0,[zf e 1,zf e 2],[yf g 0]))
def P14(_O:Orc)(_a _b c d f h j m r:DV):Option DA:=za (zx .u64 (atD [f,h,j,m,r] 3)) fun e=>za (zV d) fun g=>za (zx .u64 g) fun k=>za (zq true (U64 1) k) fun l=>za (zc .sub l (U64 1)) fun n=>za (zc .and e n) fun o=>za (zx .u64 (atD [f,h,j,m,r] 4)) fun p=>za (zV c) fun q=>za (zx .u64 q) fun s=>za (zq true (U64 1) s) fun t=>za (zc .sub t (U64 1)) fun v=>za (zc .and p v) fun w=>yP (zS (zkT c f h j m r) [I6 0,o,w] [none]) (fun x a b=>bif Nat.beq x 0 then (some (SA [mkL 1 (yf b 0),zf a 0,zf a 1])) else(none)) (fun _a _b=>none)
theorem p14(O:Orc)(a b c d f h j m r:DV):pF O zFN 14 [SA [a,b,c,d],SA [f,h,j,m,r]]=P14 O a b c d f h j m r:=by kernel_rfl
def P15(O:Orc)(a b c d f h j m r s w y z aa ab ac ad ae af ag ah aj ak am an:DV):Option DA:=b1 (O 25 [SA [a,b,c,d,f,h,j,m,r,s,w,y,z,aa,ab,ac,ad]]) fun g=>za (zc .neq g (I6 0)) fun n=>ifB n (some (.tup [.agg [.nils,U64 0,U64 0],.one g])) (b1 (O 24 [SA [a,b,c,d],SA [ae,af,ag]]) fun k=>za (zc .neq k (I6 0)) fun o=>ifB o (some (.tup [.agg [.nils,U64 0,U64 0],.one k])) (b1 (O 37 [SA [a,b,c,d,f,h,j,m,r,s,w,y,z,aa,ab,ac,ad],SA [ah,aj,ak,am,an]]) fun l=>za (zc .neq l (I6 0)) fun p=>ifB p (some (.tup [.agg [.nils,U64 0,U64 0],.one l])) (bA 3 (O 38 [SA [a,b,c,d,f,h,j,m,r,s,w,y,z,aa,ab,ac,ad],SA [ae,af,ag],SA [ah,aj,ak,am,an]]) fun e=>some (.tup [.agg [atD e 0,atD e 1,atD e 2],.one (I6 0)]))))
theorem p15(O:Orc)(a b c d f h j m r s w y z aa ab ac ad ae af ag ah aj ak am an:DV):pF O an0 15 [SA [a,b,c,d,f,h,j,m,r,s,w,y,z,aa,ab,ac,ad],SA [ae,af,ag],SA [ah,aj,ak,am,an]]=P15 O a b c d f h j m r s w y z aa ab ac ad ae af ag ah aj ak am an:=by kernel_rfl
def zFL:Nat->Option LA:=fun i=>match i with|0=>some ⟨[.slot 31,.cell 1 0,.cell 1 1,.cell 1 2],[],[(1,3)],[],[.cell 1 0,.cell 1 1,.cell 1 2],[],[.slot 7,.cell 1 0,.cell 1 1,.cell 1 2],[],[]⟩|_=>none
def zts(O:Orc)(k a b c d f h j m r s w y z aa ab ac ad l:DV)(e:List DV)(_q:List OC):Option PX:=za (zc .lss (zf e 0) k) fun n=>ifB n (b1 (O 39 [SA [a,b,c,d,f,h,j,m,r,s,w,y,z,aa,ab,ac,ad],S1 l,S1 (zf e 0)]) fun g=>za (zc .neq g (I6 0)) fun o=>ifB o (some (.ret,[g,.nils,U64 0,U64 0],[])) (za (zc .add (zf e 0) (I6 1)) fun p=>some (.normal,[p,zf e 1,zf e 2,zf e 3],[]))) (some (.exit 0,[zf e 1,zf e 2,zf e 3],[]))
def P18(O:Orc)(a b c d f h j m r s w y z aa ab ac ad g l:DV):Option DA:=b1 (O 25 [SA [a,b,c,d,f,h,j,m,r,s,w,y,z,aa,ab,ac,ad]]) fun n=>za (zc .neq n (I6 0)) fun p=>ifB p (some (.tup [.agg [.nils,U64 0,U64 0],.one n])) (b1 (O 33 [SA [a,b,c,d,f,h,j,m,r,s,w,y,z,aa,ab,ac,ad],S1 l]) fun o=>za (zc .neq o (I6 0)) fun q=>ifB q (some (.tup [.agg [.nils,U64 0,U64 0],.one o])) (za (zV g) fun t=>za (zc .gtr t (I6 5000)) fun v=>ifB v (some (.tup [.agg [.nils,U64 0,U64 0],.one (I6 4)])) (za (zV g) fun x=>yP (zS (zts O x a b c d f h j m r s w y z aa ab ac ad g) [I6 0,.nils,U64 0,U64 0] []) (fun A _e _B=>bif Nat.beq A 0 then (bA 3 (O 40 [SA [a,b,c,d,f,h,j,m,r,s,w,y,z,aa,ab,ac,ad],S1 g,S1 l]) fun k=>some (.tup [.agg [atD k 0,atD k 1,atD k 2],.one (I6 0)])) else(none)) (fun e _B=>some (.tup [.agg [zf e 1,zf e 2,zf e 3],.one (zf e 0)])))))
theorem p18(O:Orc)(a b c d f h j m r s w y z aa ab ac ad a1 a2:DV):pF O zFL 18 [SA [a,b,c,d,f,h,j,m,r,s,w,y,z,aa,ab,ac,ad],S1 a1,S1 a2]=P18 O a b c d f h j m r s w y z aa ab ac ad a1 a2:=by kernel_rfl
def zFK:Nat->Option LA:=fun i=>match i with|0=>some ⟨[.slot 35],[],[],[],[],[],[.slot 4],[],[]⟩|_=>none
def zkS(O:Orc)(n a b c d f h:DV)(g:List DV)(_R:List OC):Option PX:=za (zc .lss (zf g 0) n) fun o=>ifB o (za (yb 4 a (zf g 0)) fun e=>za (zc .lss (atD e 0) (I6 0)) fun p=>ifB p (some (.ret,[I6 3],[])) (za (zV b) fun q=>za (zc .sub q (I6 1)) fun r=>za (zc .geq (atD e 0) r) fun s=>ifB s (some (.ret,[I6 3],[])) (za (zc .gtr (zf g 0) (I6 0)) fun t=>ifB t (za (zc .sub (zf g 0) (I6 1)) fun v=>za (yb 4 a v) fun w=>za (zc .eql (atD e 0) (atD w 0)) fun x=>ifB x (some (.ret,[I6 9],[])) (za (zc .gtr (zf g 0) (I6 0)) fun y=>ifB y (za (zc .sub (zf g 0) (I6 1)) fun z=>za (yb 4 a z) fun A=>za (zc .lss (atD e 0) (atD A 0)) fun B=>ifB B (some (.ret,[I6 6],[])) (b1 (O 24 [SA [c,d,f,h],SA [atD e 1,atD e 2,atD e 3]]) fun j=>za (zc .neq j (I6 0)) fun C=>ifB C (some (.ret,[j],[])) (za (zc .add (zf g 0) (I6 1)) fun E=>some (.normal,[E],[])))) (b1 (O 24 [SA [c,d,f,h],SA [atD e 1,atD e 2,atD e 3]]) fun k=>za (zc .neq k (I6 0)) fun F=>ifB F (some (.ret,[k],[])) (za (zc .add (zf g 0) (I6 1)) fun G=>some (.normal,[G],[]))))) (za (zc .gtr (zf g 0) (I6 0)) fun H=>ifB H (za (zc .sub (zf g 0) (I6 1)) fun J=>za (yb 4 a J) fun K=>za (zc .lss (atD e 0) (atD K 0)) fun L=>ifB L (some (.ret,[I6 6],[])) (b1 (O 24 [SA [c,d,f,h],SA [atD e 1,atD e 2,atD e 3]]) fun l=>za (zc .neq l (I6 0)) fun M=>ifB M (some (.ret,[l],[])) (za (zc .add (zf g 0) (I6 1)) fun N=>some (.normal,[N],[])))) (b1 (O 24 [SA [c,d,f,h],SA [atD e 1,atD e 2,atD e 3]]) fun m=>za (zc .neq m (I6 0)) fun P=>ifB P (some (.ret,[m],[])) (za (zc .add (zf g 0) (I6 1)) fun Q=>some (.normal,[Q],[]))))))) (some (.exit 0,[],[]))
def P22(O:Orc)(a b c d f h j:DV):Option DA:=b1 (O 44 [SA [a,b,c,d]]) fun e=>za (zc .neq e (I6 0)) fun m=>ifB m (some (S1 e)) (b1 (O 45 [S1 f]) fun g=>za (zc .neq g (I6 0)) fun n=>ifB n (some (S1 g)) (b1 (O 46 [SA [a,b,c,d],SA [f,h,j]]) fun k=>za (zc .neq k (I6 0)) fun o=>ifB o (some (S1 k)) (za (zV j) fun p=>za (zc .gtr p (I6 100)) fun q=>ifB q (some (S1 (I6 4))) (za (zV j) fun r=>yP (zS (zkS O r j f a b c d) [I6 0] []) (fun s _l _t=>bif Nat.beq s 0 then (some (S1 (I6 0))) else(none)) (fun l _t=>some (S1 (zf l 0)))))))
theorem p22(O:Orc)(a b c d f h j:DV):pF O zFK 22 [SA [a,b,c,d],SA [f,h,j]]=P22 O a b c d f h j:=by kernel_rfl
def zFJ:Nat->Option LA:=fun i=>match i with|0=>some ⟨[.slot 12],[],[],[],[],[],[.slot 2],[],[]⟩|1=>some ⟨[.slot 27],[],[],[],[],[],[.slot 2],[],[]⟩|_=>none
def zhG(a b:DV)(c:List DV)(_j:List OC):Option PX:=za (zc .lss (zf c 0) (I6 2)) fun e=>ifB e (za (uc 2 (zf c 0)) fun d=>za (zc .lss (atD [a,b] d) (I6 0)) fun f=>ifB f (some (.ret,[I6 3],[])) (za (zc .gtr (atD [a,b] d) (I6 127)) fun g=>ifB g (some (.ret,[I6 3],[])) (za (zc .add (zf c 0) (I6 1)) fun h=>some (.normal,[h],[])))) (some (.exit 2,[],[]))
def ztr(a b:DV)(c:List DV)(_j:List OC):Option PX:=za (zc .lss (zf c 0) (I6 2)) fun e=>ifB e (za (uc 2 (zf c 0)) fun d=>za (zc .lss (atD [a,b] d) (I6 0)) fun f=>ifB f (some (.ret,[I6 3],[])) (za (zc .gtr (atD [a,b] d) (I6 10)) fun g=>ifB g (some (.ret,[I6 3],[])) (za (zc .add (zf c 0) (I6 1)) fun h=>some (.normal,[h],[])))) (some (.exit 0,[],[]))
def P23(_O:Orc)(a b c d:DV):Option DA:=yP (zS (ztr a c) [I6 0] []) (fun g _e _h=>bif Nat.beq g 0 then (yP (zS (zhG b d) [I6 0] []) (fun j _f _k=>bif Nat.beq j 2 then (some (S1 (I6 0))) else(none)) (fun f _k=>some (S1 (zf f 0)))) else(none)) (fun e _h=>some (S1 (zf e 0)))
theorem p23(O:Orc)(a b c d:DV):pF O zFJ 23 [SA [a,b,c,d]]=P23 O a b c d:=by kernel_rfl
def zFI:Nat->Option LA:=fun i=>match i with|0=>some ⟨[.slot 23],[],[],[],[],[],[.slot 4],[],[]⟩|_=>none
def ztq(d a b:DV)(c:List DV)(_m:List OC):Option PX:=za (zc .lss (zf c 0) d) fun e=>ifB e (za (yb 5 a (zf c 0)) fun f=>za (yb 1 b (zf c 0)) fun g=>za (zV (atD f 4)) fun h=>za (zq false (atD g 0) h) fun j=>za (zc .neq j (U64 0)) fun k=>ifB k (some (.ret,[I6 3],[])) (za (zc .add (zf c 0) (I6 1)) fun l=>some (.normal,[l],[]))) (some (.exit 0,[],[]))
def P24(O:Orc)(a b c d f h j:DV):Option DA:=b1 (O 44 [SA [a,b,c,d]]) fun e=>za (zc .neq e (I6 0)) fun k=>ifB k (some (S1 e)) (za (zV f) fun l=>za (zV c) fun m=>za (zc .neq l m) fun n=>ifB n (some (S1 (I6 5))) (za (zV c) fun o=>yP (zS (ztq o c f) [I6 0] []) (fun p _g _q=>bif Nat.beq p 0 then (za (zV d) fun r=>za (zq false h r) fun s=>za (zc .neq s (U64 0)) fun t=>ifB t (some (S1 (I6 3))) (za (zV c) fun v=>za (zq false j v) fun w=>za (zc .neq w (U64 0)) fun x=>ifB x (some (S1 (I6 3))) (some (S1 (I6 0))))) else(none)) (fun g _q=>some (S1 (zf g 0)))))
theorem p24(O:Orc)(a b c d f h j:DV):pF O zFI 24 [SA [a,b,c,d],SA [f,h,j]]=P24 O a b c d f h j:=by kernel_rfl
def zFH:Nat->Option LA:=fun i=>match i with|0=>some ⟨[.slot 31],[],[],[],[],[],[.slot 2],[],[]⟩|1=>some ⟨[.slot 64],[],[],[],[],[],[.slot 2],[],[]⟩|_=>none
def zaO(a b c d:DV)(e:List DV)(_l:List OC):Option PX:=za (zc .lss (zf e 0) (I6 4)) fun g=>ifB g (za (uc 4 (zf e 0)) fun f=>za (zc .lss (atD [a,b,c,d] f) (I6 0)) fun h=>ifB h (some (.ret,[I6 3],[])) (za (zc .gtr (atD [a,b,c,d] f) (I6 1000)) fun j=>ifB j (some (.ret,[I6 3],[])) (za (zc .add (zf e 0) (I6 1)) fun k=>some (.normal,[k],[])))) (some (.exit 2,[],[]))
def ztp(O:Orc)(j a b c d f:DV)(e:List DV)(_n:List OC):Option PX:=za (zc .lss (zf e 0) j) fun k=>ifB k (za (yb 3 a (zf e 0)) fun g=>b1 (O 24 [SA [b,c,d,f],SA [atD g 0,atD g 1,atD g 2]]) fun h=>za (zc .neq h (I6 0)) fun l=>ifB l (some (.ret,[h],[])) (za (zc .add (zf e 0) (I6 1)) fun m=>some (.normal,[m],[]))) (some (.exit 0,[],[]))
def P25(O:Orc)(a b c d f h j m r s w y z aa ab ac ad:DV):Option DA:=b1 (O 22 [SA [a,b,c,d],SA [f,h,j]]) fun e=>za (zc .neq e (I6 0)) fun n=>ifB n (some (S1 e)) (b1 (O 23 [SA [m,r,s,w]]) fun g=>za (zc .neq g (I6 0)) fun o=>ifB o (some (S1 g)) (za (zV y) fun p=>za (zc .gtr p (I6 40)) fun q=>ifB q (some (S1 (I6 4))) (za (zV y) fun t=>yP (zS (ztp O t y a b c d) [I6 0] []) (fun v _k _x=>bif Nat.beq v 0 then (za (zc .lss z (I6 0)) fun A=>ifB A (some (S1 (I6 3))) (za (zc .gtr z (I6 20)) fun B=>ifB B (some (S1 (I6 3))) (yP (zS (zaO aa ab ac ad) [I6 0] []) (fun C _l _E=>bif Nat.beq C 2 then (some (S1 (I6 0))) else(none)) (fun l _E=>some (S1 (zf l 0)))))) else(none)) (fun k _x=>some (S1 (zf k 0))))))
theorem p25(O:Orc)(a b c d f h j m r s w y z aa ab ac ad:DV):pF O zFH 25 [SA [a,b,c,d,f,h,j,m,r,s,w,y,z,aa,ab,ac,ad]]=P25 O a b c d f h j m r s w y z aa ab ac ad:=by kernel_rfl
def P31(O:Orc)(a b c d f h:DV):Option DA:=b1 (O 56 [SA [a,b,c]]) fun e=>ifB e (za (zV d) fun g=>za (zc .gtr g (I6 0)) fun j=>ifB j (za (zV d) fun k=>za (zc .leq k (I6 4)) fun l=>ifB l (za (zV f) fun m=>za (zc .leq m (I6 8)) fun n=>ifB n (za (zV h) fun o=>za (zc .leq o (I6 3)) fun p=>some (S1 p)) (some (S1 (.bool false)))) (some (S1 (.bool false)))) (some (S1 (.bool false)))) (some (S1 (.bool false)))
theorem p31(O:Orc)(a b c d f h:DV):pF O an0 31 [SA [a,b,c,d,f,h]]=P31 O a b c d f h:=by kernel_rfl
def zFG:Nat->Option LA:=fun i=>match i with|0=>some ⟨[.slot 26],[(.cell 5 0,1),(.cell 5 1,4),(.cell 5 2,4)],[(5,3)],[],[],[(.cell 5 0,1),(.cell 5 1,4),(.cell 5 2,4)],[.cell 5 1,.cell 5 2],[(.cell 5 0,1)],[]⟩|1=>some ⟨[.slot 58],[(.cell 5 0,1),(.cell 5 1,4),(.cell 5 2,4)],[(5,3)],[],[],[(.cell 5 0,1),(.cell 5 1,4),(.cell 5 2,4)],[],[(.cell 5 0,1),(.cell 5 1,4),(.cell 5 2,4)],[]⟩|2=>some ⟨[.slot 121,.slot 14],[(.cell 5 0,1),(.cell 5 1,4),(.cell 5 2,4)],[(5,3)],[],[],[(.cell 5 0,1),(.cell 5 1,4),(.cell 5 2,4)],[],[(.cell 5 0,1),(.cell 5 1,4),(.cell 5 2,4)],[]⟩|_=>none
def zkQ(O:Orc)(j a b:DV)(f:List DV)(d:List DV)(c:List OC):Option PX:=za (zc .lss (zf d 0) j) fun k=>ifB k (za (yb 6 a (zf d 0)) fun e=>za (zx .i64 (atD e 0)) fun l=>za (zV b) fun m=>za (zc .rem l m) fun g=>za (zc .gtr g (zf d 1)) fun n=>ifB n (bA 3 (O 14 [SA [atD f 0,atD f 1,atD f 2,atD f 3],SA [atD e 1,atD e 2,atD e 3,atD e 4,atD e 5]]) fun h=>gd (fits 48 (xH (yf c 2)+1)) (za (zc .add (zf d 0) (I6 1)) fun o=>some (.normal,[o,g],[yf c 0,yf c 1,some (z5 (yf c 2)++[[g,atD h 0,atD h 1,atD h 2]])]))) (za (zc .add (zf d 0) (I6 1)) fun p=>some (.normal,[p,zf d 1],[yf c 0,yf c 1,yf c 2]))) (some (.exit 4,[],[yf c 0,yf c 1,yf c 2]))
def zkR(O:Orc)(m a:DV)(h j:List DV)(c:List DV)(b:List OC):Option PX:=za (zc .lss (zf c 0) m) fun n=>ifB n (za (yb 4 a (zf c 0)) fun d=>za (zx .i64 (atD d 2)) fun o=>za (zV (atD h 2)) fun p=>za (zc .rem o p) fun e=>za (yb 5 (atD h 2) e) fun f=>za (zx .i64 (atD d 0)) fun q=>za (zc .rem q (atD j 0)) fun g=>za (zx .i64 (atD d 3)) fun r=>za (zc .sub (atD f 3) (atD f 2)) fun s=>za (zc .add s (I6 1)) fun t=>za (zc .rem r t) fun v=>za (zc .add (atD f 2) v) fun k=>za (zc .add g (I6 1)) fun w=>za (zc .rem (atD d 1) (U8 8)) fun x=>za (zx .i64 x) fun y=>za (zc .add w y) fun z=>za (jI false (atD j 0) [z]) fun l=>b1s (O 58 [S1 (mkL 4 (yf b 1)),S1 (.fn 59 [[g,l,e,k]])]) fun A=>za (zbG A) fun B=>ifB B (gd (fits 32 (xH (yf b 1)+1)) (za (zc .add (zf c 0) (I6 1)) fun C=>some (.normal,[C],[yf b 0,some (z5 (yf b 1)++[[g,l,e,k]]),yf b 2]))) (za (zc .add (zf c 0) (I6 1)) fun E=>some (.normal,[E],[yf b 0,yf b 1,yf b 2]))) (some (.exit 2,[],[yf b 0,yf b 1,yf b 2]))
def zto(d a:DV)(c:List DV)(b:List OC):Option PX:=za (zc .lss (zf c 0) d) fun e=>ifB e (za (yb 1 a (zf c 0)) fun f=>za (zO (yf b 0) (zf c 0)) fun g=>za (xY (yf b 0) g) fun h=>za (zc .add (atD h 0) (I6 1)) fun j=>za (zc .rem (atD f 0) (U8 6)) fun k=>za (zx .i64 k) fun l=>za (zc .add j l) fun m=>gd (fits 8 (xH (yf b 0)+1)) (za (zc .add (zf c 0) (I6 1)) fun n=>some (.normal,[n],[some (z5 (yf b 0)++[[m]]),yf b 1,yf b 2]))) (some (.exit 0,[],[yf b 0,yf b 1,yf b 2]))
def P32(O:Orc)(a b c d f h:DV):Option DA:=bA 4 (O 57 [SA [a,b,c]]) fun g=>za (zV d) fun l=>yP (zS (zto l d) [I6 0] [some [[I6 0]],none,none]) (fun m _n e=>bif Nat.beq m 0 then (za (zc .sub (I6 (Int.ofNat (xH (yf e 0)))) (I6 1)) fun o=>za (zO (yf e 0) o) fun p=>za (xY (yf e 0) p) fun q=>za (zV f) fun r=>yP (zS (zkR O r f g q) [I6 0] [yf e 0,yf e 1,yf e 2]) (fun s _t j=>bif Nat.beq s 2 then (za (zV h) fun v=>yP (zS (zkQ O v h d g) [I6 0,I6 (-1)] [yf j 0,yf j 1,yf j 2]) (fun w _x k=>bif Nat.beq w 4 then (some (.tup [.agg [atD g 0,atD g 1,atD g 2,atD g 3],.agg [mkL 1 (yf k 0),mkL 4 (yf k 1),mkL 4 (yf k 2)]])) else(none)) (fun _x _k=>none)) else(none)) (fun _t _j=>none)) else(none)) (fun _n _e=>none)
theorem p32(O:Orc)(a b c d f h:DV):pF O zFG 32 [SA [a,b,c,d,f,h]]=P32 O a b c d f h:=by kernel_rfl
def zFC:Nat->Option LA:=fun i=>match i with|0=>some ⟨[.slot 27],[],[],[(1,1048576)],[],[],[.slot 2],[],[]⟩|1=>some ⟨[.slot 58],[(.slot 8,2)],[],[(2,1048576)],[],[(.slot 8,2)],[.slot 2],[],[]⟩|_=>none
def zkP(O:Orc)(l a b c d:DV)(g:List DV)(f:List OC):Option PX:=za (zc .lss (zf g 0) l) fun m=>ifB m (za (yb 5 a (zf g 0)) fun e=>b1 (O 68 [S1 (atD e 0)]) fun n=>za (zbG n) fun o=>ifB o (some (.ret,[I6 8],[some (z5 (yf f 1))])) (za (zk2 (.inl 2) (.one (atD e 0)) (.one (atD e 0))) fun _x=>za (ziS (.inl 2) 1048576 (.one (atD e 0)) (z5 (yf f 1))) fun p=>ifB (dsO (lkD (.one (.bool false)) p)) (za (zc .neq (I6 9) (I6 0)) fun q=>ifB q (some (.ret,[I6 9],[some (z5 (yf f 1))])) (b1 (O 71 [SA [b,c,a,d],SA [atD e 0,atD e 1,atD e 2,atD e 3,atD e 4]]) fun j=>za (zc .neq j (I6 0)) fun r=>ifB r (some (.ret,[j],[some (z5 (yf f 1))])) (gd (fits 16 (xH (yf f 0)+1)) (za (zc .add (zf g 0) (I6 1)) fun s=>some (.normal,[s],[some (z5 (yf f 0)++[[atD e 2,atD e 3]]),some (z5 (yf f 1))]))))) (za (zk2 (.inl 2) (.one (atD e 0)) (.one (atD e 0))) fun _y=>za (ztx (.inl 2) 1048576 (.one (atD e 0)) [atD e 0,.bool true] (z5 (yf f 1))) fun h=>za (zc .neq (I6 0) (I6 0)) fun t=>ifB t (some (.ret,[I6 0],[some h])) (b1 (O 71 [SA [b,c,a,d],SA [atD e 0,atD e 1,atD e 2,atD e 3,atD e 4]]) fun k=>za (zc .neq k (I6 0)) fun v=>ifB v (some (.ret,[k],[some h])) (gd (fits 16 (xH (yf f 0)+1)) (za (zc .add (zf g 0) (I6 1)) fun w=>some (.normal,[w],[some (z5 (yf f 0)++[[atD e 2,atD e 3]]),some h]))))))) (some (.exit 4,[],[yf f 0,some (z5 (yf f 1))]))
def ztl(O:Orc)(g a:DV)(d:List DV)(c:List OC):Option PX:=za (zc .lss (zf d 0) g) fun h=>ifB h (za (yb 6 a (zf d 0)) fun b=>b1 (O 69 [SA [atD b 0,atD b 1,atD b 2,atD b 3,atD b 4,atD b 5]]) fun e=>za (zc .neq e (I6 0)) fun j=>ifB j (some (.ret,[e],[some (z5 (yf c 0))])) (za (zk2 (.inl 2) (.one (atD b 0)) (.one (atD b 0))) fun _p=>za (ziS (.inl 2) 1048576 (.one (atD b 0)) (z5 (yf c 0))) fun k=>ifB (dsO (lkD (.one (.bool false)) k)) (za (zc .neq (I6 9) (I6 0)) fun l=>ifB l (some (.ret,[I6 9],[some (z5 (yf c 0))])) (za (zc .add (zf d 0) (I6 1)) fun m=>some (.normal,[m],[some (z5 (yf c 0))]))) (za (zk2 (.inl 2) (.one (atD b 0)) (.one (atD b 0))) fun _q=>za (ztx (.inl 2) 1048576 (.one (atD b 0)) [atD b 0,.bool true] (z5 (yf c 0))) fun f=>za (zc .neq (I6 0) (I6 0)) fun n=>ifB n (some (.ret,[I6 0],[some f])) (za (zc .add (zf d 0) (I6 1)) fun o=>some (.normal,[o],[some f]))))) (some (.exit 1,[],[some (z5 (yf c 0))]))
def P44(O:Orc)(a b c d:DV):Option DA:=b1 (O 68 [S1 a]) fun h=>za (zbG h) fun j=>ifB j (some (S1 (I6 8))) (za (zV b) fun k=>za (zc .gtr k (I6 60)) fun l=>ifB l (some (S1 (I6 4))) (za (zV b) fun m=>yP (zS (ztl O m b) [I6 0] [some []]) (fun n _e _o=>bif Nat.beq n 1 then (za (zV c) fun p=>za (zc .eql p (I6 0)) fun q=>ifB q (some (S1 (I6 13))) (za (zV c) fun r=>za (zc .gtr r (I6 8)) fun s=>ifB s (some (S1 (I6 4))) (za (zV c) fun t=>yP (zS (zkP O t c a b d) [I6 0] [none,some []]) (fun v _f g=>bif Nat.beq v 4 then (b1s (O 72 [S1 (mkL 2 (yf g 0)),S1 d]) fun w=>some (S1 w)) else(none)) (fun f _g=>some (S1 (zf f 0)))))) else(none)) (fun e _o=>some (S1 (zf e 0)))))
theorem p44(O:Orc)(a b c d:DV):pF O zFC 44 [SA [a,b,c,d]]=P44 O a b c d:=by kernel_rfl
def zFB:Nat->Option LA:=fun i=>match i with|0=>some ⟨[.slot 15],[],[],[],[],[],[.slot 2],[],[]⟩|_=>none
def ztk(d c:DV)(a:List DV)(_o:List OC):Option PX:=za (zc .lss (zf a 0) d) fun e=>ifB e (za (yb 1 c (zf a 0)) fun b=>za (zc .lss (atD b 0) (I6 0)) fun f=>ifB f (some (.ret,[I6 3],[])) (za (zc .gtr (atD b 0) (I6 100000)) fun g=>ifB g (some (.ret,[I6 3],[])) (za (zc .gtr (zf a 0) (I6 0)) fun h=>ifB h (za (zc .sub (zf a 0) (I6 1)) fun j=>za (yb 1 c j) fun k=>za (zc .leq (atD b 0) (atD k 0)) fun l=>ifB l (some (.ret,[I6 6],[])) (za (zc .add (zf a 0) (I6 1)) fun m=>some (.normal,[m],[]))) (za (zc .add (zf a 0) (I6 1)) fun n=>some (.normal,[n],[]))))) (some (.exit 1,[],[]))
def P45(_O:Orc)(a:DV):Option DA:=za (zV a) fun c=>za (zc .lss c (I6 2)) fun d=>ifB d (some (S1 (I6 5))) (za (zV a) fun e=>za (zc .gtr e (I6 201)) fun f=>ifB f (some (S1 (I6 4))) (za (zV a) fun g=>yP (zS (ztk g a) [I6 0] []) (fun h _b _j=>bif Nat.beq h 1 then (some (S1 (I6 0))) else(none)) (fun b _j=>some (S1 (zf b 0)))))
theorem p45(O:Orc)(a0:DV):pF O zFB 45 [S1 a0]=P45 O a0:=by kernel_rfl
def zFA:Nat->Option LA:=fun i=>match i with|0=>some ⟨[.slot 3],[],[],[],[],[],[.slot 2],[],[]⟩|_=>none
def zkO(a:DV)(b:List DV)(_j:List OC):Option PX:=za (zV a) fun c=>za (zc .lss (zf b 0) c) fun d=>ifB d (za (yb 4 a (zf b 0)) fun e=>za (zV (atD e 3)) fun f=>za (zc .gtr f (I6 3)) fun g=>ifB g (some (.ret,[.bool false],[])) (za (zc .add (zf b 0) (I6 1)) fun h=>some (.normal,[h],[]))) (some (.exit 0,[],[]))
def P56(_O:Orc)(a b c:DV):Option DA:=za (zV a) fun e=>za (zc .lss e (I6 1)) fun f=>ifB f (some (S1 (.bool false))) (za (zV a) fun g=>za (zc .gtr g (I6 3)) fun h=>ifB h (some (S1 (.bool false))) (za (zV b) fun j=>za (zc .lss j (I6 1)) fun k=>ifB k (some (S1 (.bool false))) (za (zV b) fun l=>za (zc .gtr l (I6 3)) fun m=>ifB m (some (S1 (.bool false))) (za (zV c) fun n=>za (zc .gtr n (I6 3)) fun o=>ifB o (some (S1 (.bool false))) (yP (zS (zkO b) [I6 0] []) (fun p _d _q=>bif Nat.beq p 0 then (some (S1 (.bool true))) else(none)) (fun d _q=>some (S1 (zf d 0))))))))
theorem p56(O:Orc)(a b c:DV):pF O zFA 56 [SA [a,b,c]]=P56 O a b c:=by kernel_rfl
def zFz:Nat->Option LA:=fun i=>match i with|0=>some ⟨[.slot 4,.cell 2 0],[(.cell 2 1,6),(.cell 2 2,5),(.cell 2 3,5)],[(2,4)],[],[.cell 2 0],[(.cell 2 1,6),(.cell 2 2,5),(.cell 2 3,5)],[.cell 2 0,.cell 2 2,.cell 2 3],[(.cell 2 1,6)],[]⟩|1=>some ⟨[.slot 5,.cell 2 0,.cell 2 1],[(.cell 2 2,5),(.cell 2 3,5)],[(2,4)],[],[.cell 2 0,.cell 2 1],[(.cell 2 2,5),(.cell 2 3,5)],[.cell 2 0,.cell 2 1],[(.cell 2 2,5),(.cell 2 3,5)],[3]⟩|2=>some ⟨[.slot 9,.cell 10 0,.cell 10 1,.cell 10 2,.cell 10 3],[(.cell 10 4,4)],[(10,5)],[],[.cell 10 0,.cell 10 1,.cell 10 2,.cell 10 3],[(.cell 10 4,4)],[.cell 10 0,.cell 10 1,.cell 10 2,.cell 10 3],[(.cell 10 4,4)],[]⟩|3=>some ⟨[.slot 11,.cell 2 0,.cell 2 1],[(.cell 2 2,5),(.cell 2 3,5)],[(2,4)],[],[.cell 2 0,.cell 2 1],[(.cell 2 2,5),(.cell 2 3,5)],[.cell 2 0,.cell 2 1],[(.cell 2 2,5),(.cell 2 3,5)],[]⟩|_=>none
def zkL(a j:DV)(b:List DV)(c:List OC):Option PX:=za (zV a) fun k=>za (zc .lss (zf b 0) k) fun l=>ifB l (za (yb 4 a (zf b 0)) fun d=>za (zc .add (I6 48) (zf b 0)) fun m=>za (zx .u8 m) fun n=>za (zra (.lst 1 [[n]])) fun o=>za (zq3 .add (.str ⟨#[67]⟩) o) fun g=>za (zx .i64 (atD d 0)) fun p=>za (zc .rem p j) fun e=>za (zx .i64 (atD d 1)) fun q=>za (zc .rem q j) fun f=>za (zx .i64 (atD d 2)) fun r=>za (zc .rem r (I6 25)) fun h=>za (zc .eql e f) fun s=>ifB s (za (zc .eql h (I6 0)) fun t=>ifB t (gd (fits 48 (xH (yf c 1)+1)) (za (zc .add (zf b 0) (I6 1)) fun v=>some (.normal,[v,zf b 1,zf b 2],[yf c 0,some (z5 (yf c 1)++[[g,e,f,I6 12,atD d 3]])]))) (gd (fits 48 (xH (yf c 1)+1)) (za (zc .add (zf b 0) (I6 1)) fun w=>some (.normal,[w,zf b 1,zf b 2],[yf c 0,some (z5 (yf c 1)++[[g,e,f,h,atD d 3]])])))) (gd (fits 48 (xH (yf c 1)+1)) (za (zc .add (zf b 0) (I6 1)) fun x=>some (.normal,[x,zf b 1,zf b 2],[yf c 0,some (z5 (yf c 1)++[[g,e,f,h,atD d 3]])])))) (some (.exit 6,[zf b 1,zf b 2],[yf c 0,yf c 1]))
def zkM(O:Orc)(e f:List DV)(a:List DV)(d:List OC):Option PX:=za (zV (atD e 3)) fun g=>za (zc .lss (zf a 0) g) fun h=>ifB h (za (yb 4 (atD e 3) (zf a 0)) fun b=>bA 4 (O 83 [S1 (zf f 2),SA [zf a 3,zf a 4],SA [atD b 0,atD b 1,atD b 2,atD b 3],S1 (zf a 0)]) fun c=>gd (fits 56 (xH (yf d 0)+1)) (za (zc .add (zf a 0) (I6 1)) fun j=>some (.normal,[j,zf a 1,zf a 2,zf a 3,zf a 4],[some (z5 (yf d 0)++[[atD c 0,atD c 1,atD c 2,atD c 3]])]))) (some (.exit 4,[zf a 1,zf a 2,zf a 3,zf a 4],[yf d 0]))
def zkN(O:Orc)(a:DV)(b:List DV)(c:List OC):Option PX:=za (zV a) fun j=>za (zc .lss (zf b 0) j) fun k=>ifB k (za (yb 4 a (zf b 0)) fun e=>za (zc .rem (atD e 0) (U8 12)) fun l=>za (zx .i64 l) fun m=>za (zc .add (I6 36) m) fun g=>za (zc .add (I6 48) (zf b 0)) fun n=>za (zx .u8 n) fun o=>za (zra (.lst 1 [[o]])) fun p=>za (zq3 .add (.str ⟨#[68]⟩) p) fun q=>za (zc .rem (atD e 1) (U8 9)) fun r=>za (zx .i64 r) fun s=>za (zc .add g s) fun t=>yP (zS (zkM O e b) [I6 0,q,atD e 2,g,t] [none]) (fun f d h=>bif Nat.beq f 4 then (gd (fits 64 (xH (yf c 0)+1)) (za (zc .add (zf b 0) (I6 1)) fun v=>some (.normal,[v,zf b 1,zf b 2],[some (z5 (yf c 0)++[[zf d 0,zf d 1,zf d 2,zf d 3,mkL 4 (yf h 0)]]),yf c 1]))) else(bif Nat.beq f 3 then (za (zc .add (zf b 0) (I6 1)) fun w=>some (.normal,[w,zf b 1,zf b 2],[yf c 0,yf c 1])) else(some (.exit f,[zf b 1,zf b 2],[yf c 0,yf c 1])))) (fun _d _h=>none)) (some (.exit 2,[zf b 1,zf b 2],[yf c 0,yf c 1]))
def ztj(O:Orc)(a:DV)(d:List DV)(c:List OC):Option PX:=za (zV a) fun f=>za (zc .lss (zf d 0) f) fun g=>ifB g (za (yb 9 a (zf d 0)) fun b=>bA 6 (O 82 [SA [atD b 0,atD b 1,atD b 2,atD b 3,atD b 4,atD b 5,atD b 6,atD b 7,atD b 8],S1 (zf d 0)]) fun e=>gd (fits 80 (xH (yf c 0)+1)) (za (zc .add (zf d 0) (I6 1)) fun h=>some (.normal,[h,zf d 1],[some (z5 (yf c 0)++[[atD e 0,atD e 1,atD e 2,atD e 3,atD e 4,atD e 5]]),yf c 1,yf c 2]))) (some (.exit 0,[zf d 1],[yf c 0,yf c 1,yf c 2]))
def P57(O:Orc)(a b c:DV):Option DA:=yP (zS (ztj O a) [I6 0,.str ⟨#[79,114,103,97,110]⟩] [none,none,none]) (fun k j d=>bif Nat.beq k 0 then (yP (zS (zkN O b) [I6 0,zf j 0,mkL 6 (yf d 0)] [yf d 1,yf d 2]) (fun l e f=>bif Nat.beq l 2 then (za (zV b) fun m=>yP (zS (zkL c m) [I6 0,zf e 0,zf e 1] [yf f 0,yf f 1]) (fun n g h=>bif Nat.beq n 6 then (some (SA [zf g 0,zf g 1,mkL 5 (yf h 0),mkL 5 (yf h 1)])) else(none)) (fun _g _h=>none)) else(none)) (fun _e _f=>none)) else(none)) (fun _j _d=>none)
theorem p57(O:Orc)(a b c:DV):pF O zFz 57 [SA [a,b,c]]=P57 O a b c:=by kernel_rfl
def P58(O:Orc)(a b:DV):Option DA:=b1 (O 84 [S1 a,S1 b]) fun c=>za (zc .geq c (I6 0)) fun d=>some (S1 d)
theorem p58(O:Orc)(a0 a1:DV):pF O an0 58 [S1 a0,S1 a1]=P58 O a0 a1:=by kernel_rfl
def P59(O:Orc)(a b c d f h j m:DV):Option DA:=b1 (O 60 [SA [a,b,c,d],SA [f,h,j,m]]) fun e=>some (S1 e)
theorem p59(O:Orc)(a b c d f h j m:DV):pF O an0 59 [SA [a,b,c,d],S1 (.fp [f,h,j,m] 0)]=P59 O a b c d f h j m:=by kernel_rfl
def P60(_O:Orc)(a b c d f h j m:DV):Option DA:=za (zc .eql c j) fun e=>ifB e (za (zc .eql d m) fun g=>ifB g (za (zc .lss a h) fun k=>ifB k (za (zc .lss f b) fun l=>some (S1 l)) (some (S1 (.bool false)))) (some (S1 (.bool false)))) (some (S1 (.bool false)))
theorem p60(O:Orc)(a b c d f h j m:DV):pF O an0 60 [SA [a,b,c,d],SA [f,h,j,m]]=P60 O a b c d f h j m:=by kernel_rfl
def zFy:Nat->Option LA:=fun i=>match i with|0=>some ⟨[.slot 3],[],[],[],[],[],[.slot 2],[],[]⟩|_=>none
def zti(O:Orc)(c:DV)(a:List DV)(_q:List OC):Option PX:=za (zo5 c) fun d=>za (zc .lss (zf a 0) d) fun e=>ifB e (za (zei c (zf a 0)) fun b=>b1 (O 89 [S1 b]) fun f=>za (zbG f) fun g=>ifB g (za (zc .lss b (U8 48)) fun h=>ifB h (za (zc .neq b (U8 95)) fun j=>ifB j (some (.ret,[.bool false],[])) (za (zc .add (zf a 0) (I6 1)) fun k=>some (.normal,[k],[]))) (za (zc .gtr b (U8 57)) fun l=>ifB l (za (zc .neq b (U8 95)) fun m=>ifB m (some (.ret,[.bool false],[])) (za (zc .add (zf a 0) (I6 1)) fun n=>some (.normal,[n],[]))) (za (zc .add (zf a 0) (I6 1)) fun o=>some (.normal,[o],[])))) (za (zc .add (zf a 0) (I6 1)) fun p=>some (.normal,[p],[]))) (some (.exit 0,[],[]))
def P68(O:Orc)(a:DV):Option DA:=za (zq3 .eql a (.str ⟨#[]⟩)) fun c=>ifB c (some (S1 (.bool false))) (za (zo5 a) fun d=>za (zc .gtr d (I6 32)) fun e=>ifB e (some (S1 (.bool false))) (za (zei a (I6 0)) fun f=>b1 (O 89 [S1 f]) fun g=>za (zbG g) fun h=>ifB h (some (S1 (.bool false))) (yP (zS (zti O a) [I6 1] []) (fun j _b _k=>bif Nat.beq j 0 then (some (S1 (.bool true))) else(none)) (fun b _k=>some (S1 (zf b 0))))))
theorem p68(O:Orc)(a0:DV):pF O zFy 68 [S1 a0]=P68 O a0:=by kernel_rfl
def P69(O:Orc)(a b c d f h:DV):Option DA:=b1 (O 68 [S1 a]) fun g=>za (zbG g) fun j=>ifB j (some (S1 (I6 8))) (b1 (O 68 [S1 b]) fun k=>za (zbG k) fun l=>ifB l (some (S1 (I6 8))) (b1 (O 90 [SA [c,d]]) fun e=>za (zc .neq e (I6 0)) fun m=>ifB m (some (S1 e)) (b1 (O 91 [S1 f]) fun n=>za (zbG n) fun o=>ifB o (some (S1 (I6 3))) (za (zV h) fun p=>za (zc .eql p (I6 0)) fun q=>ifB q (some (S1 (I6 13))) (za (zV h) fun r=>za (zc .gtr r (I6 128)) fun s=>ifB s (some (S1 (I6 4))) (b1 (O 92 [S1 h]) fun t=>some (S1 t)))))))
theorem p69(O:Orc)(a b c d f h:DV):pF O an0 69 [SA [a,b,c,d,f,h]]=P69 O a b c d f h:=by kernel_rfl
def zFx:Nat->Option LA:=fun i=>match i with|0=>some ⟨[.slot 25],[],[],[(2,1048576)],[],[],[.slot 4],[],[]⟩|_=>none
def zth(O:Orc)(k a b c d:DV)(g:List DV)(f:List OC):Option PX:=za (zc .lss (zf g 0) k) fun l=>ifB l (za (yb 4 a (zf g 0)) fun e=>b1 (O 94 [SA [b,c,d],SA [atD e 0,atD e 1,atD e 2,atD e 3]]) fun h=>za (zc .neq h (I6 0)) fun m=>ifB m (some (.ret,[h],[some (z5 (yf f 0))])) (za (zk2 (.inl 2) (.one (atD e 0)) (.one (atD e 0))) fun _s=>za (ziS (.inl 2) 1048576 (.one (atD e 0)) (z5 (yf f 0))) fun n=>ifB (dsO (lkD (.one (.bool false)) n)) (za (zc .neq (I6 9) (I6 0)) fun o=>ifB o (some (.ret,[I6 9],[some (z5 (yf f 0))])) (za (zc .add (zf g 0) (I6 1)) fun p=>some (.normal,[p],[some (z5 (yf f 0))]))) (za (zk2 (.inl 2) (.one (atD e 0)) (.one (atD e 0))) fun _t=>za (ztx (.inl 2) 1048576 (.one (atD e 0)) [atD e 0,.bool true] (z5 (yf f 0))) fun j=>za (zc .neq (I6 0) (I6 0)) fun q=>ifB q (some (.ret,[I6 0],[some j])) (za (zc .add (zf g 0) (I6 1)) fun r=>some (.normal,[r],[some j]))))) (some (.exit 0,[],[some (z5 (yf f 0))]))
def P71(O:Orc)(_a b _c _d _f _h j m r:DV):Option DA:=b1 (O 93 [SA [j,m]]) fun a=>za (zc .neq a (I6 0)) fun d=>ifB d (some (S1 a)) (za (zV r) fun e=>za (zc .gtr e (I6 60)) fun f=>ifB f (some (S1 (I6 4))) (za (zV r) fun g=>yP (zS (zth O g r b j m) [I6 0] [some []]) (fun h _c _k=>bif Nat.beq h 0 then (some (S1 (I6 0))) else(none)) (fun c _k=>some (S1 (zf c 0)))))
theorem p71(O:Orc)(a b c d f h j m r:DV):pF O zFx 71 [SA [a,b,c,d],SA [f,h,j,m,r]]=P71 O a b c d f h j m r:=by kernel_rfl
def zFw:Nat->Option LA:=fun i=>match i with|0=>some ⟨[.slot 19],[],[],[],[],[],[.slot 4],[],[]⟩|1=>some ⟨[.slot 29],[],[],[],[],[],[.slot 4],[],[]⟩|_=>none
def zkJ(O:Orc)(e c d:DV)(b:List DV)(_y:List OC):Option PX:=za (zc .lss (zf b 0) e) fun f=>ifB f (za (yb 5 c (zf b 0)) fun a=>b1 (O 68 [S1 (atD a 0)]) fun g=>za (zbG g) fun h=>ifB h (some (.ret,[I6 8],[])) (za (za0 5 c none (some (zf b 0))) fun j=>b1s (O 95 [S1 j,S1 (.fn 96 [[atD a 0,atD a 1,atD a 2,atD a 3,atD a 4]])]) fun k=>ifB k (some (.ret,[I6 9],[])) (za (zc .lss (atD a 1) (I6 0)) fun l=>ifB l (some (.ret,[I6 10],[])) (za (zV d) fun m=>za (zc .geq (atD a 1) m) fun n=>ifB n (some (.ret,[I6 10],[])) (za (zc .lss (atD a 2) (I6 0)) fun o=>ifB o (some (.ret,[I6 10],[])) (za (zV d) fun p=>za (zc .geq (atD a 2) p) fun q=>ifB q (some (.ret,[I6 10],[])) (za (zc .lss (atD a 3) (I6 (-127))) fun r=>ifB r (some (.ret,[I6 3],[])) (za (zc .gtr (atD a 3) (I6 127)) fun s=>ifB s (some (.ret,[I6 3],[])) (za (zc .eql (atD a 1) (atD a 2)) fun t=>ifB t (za (zc .eql (atD a 3) (I6 0)) fun v=>ifB v (some (.ret,[I6 7],[])) (za (zc .add (zf b 0) (I6 1)) fun w=>some (.normal,[w],[]))) (za (zc .add (zf b 0) (I6 1)) fun x=>some (.normal,[x],[]))))))))))) (some (.exit 2,[],[]))
def ztg(O:Orc)(c d:DV)(a:List DV)(_j:List OC):Option PX:=za (zc .lss (zf a 0) c) fun e=>ifB e (za (yb 2 d (zf a 0)) fun b=>b1 (O 93 [SA [atD b 0,atD b 1]]) fun f=>za (zc .neq f (I6 0)) fun g=>ifB g (some (.ret,[I6 23],[])) (za (zc .add (zf a 0) (I6 1)) fun h=>some (.normal,[h],[]))) (some (.exit 0,[],[]))
def P72(O:Orc)(a b:DV):Option DA:=za (zV a) fun e=>za (zc .gtr e (I6 8)) fun f=>ifB f (some (S1 (I6 4))) (za (zV b) fun g=>za (zc .gtr g (I6 40)) fun h=>ifB h (some (S1 (I6 4))) (za (zV a) fun j=>yP (zS (ztg O j a) [I6 0] []) (fun k _c _l=>bif Nat.beq k 0 then (za (zV b) fun m=>yP (zS (zkJ O m b a) [I6 0] []) (fun n _d _o=>bif Nat.beq n 2 then (some (S1 (I6 0))) else(none)) (fun d _o=>some (S1 (zf d 0)))) else(none)) (fun c _l=>some (S1 (zf c 0)))))
theorem p72(O:Orc)(a0 a1:DV):pF O zFw 72 [S1 a0,S1 a1]=P72 O a0 a1:=by kernel_rfl
def P73(_O:Orc)(a _b _c:DV):Option DA:=za (yb 1 a (I6 0)) fun b=>za (zV a) fun c=>za (zc .sub c (I6 1)) fun d=>za (yb 1 a d) fun e=>some (.tup [.one (atD b 0),.one (atD e 0)])
theorem p73(O:Orc)(a b c:DV):pF O an0 73 [SA [a,b,c]]=P73 O a b c:=by kernel_rfl
def P74(_O:Orc)(a b _c _d f h _j _m:DV):Option DA:=za (zc .lss f b) fun c=>ifB c (za (zc .lss a h) fun d=>some (S1 d)) (some (S1 (.bool false)))
theorem p74(O:Orc)(a b c d f h j m:DV):pF O an0 74 [SA [a,b,c,d],S1 (.fp [f,h,j,m] 0)]=P74 O a b c d f h j m:=by kernel_rfl
def zFv:Nat->Option LA:=fun i=>match i with|0=>some ⟨[.slot 6,.cell 4 0,.cell 4 1,.cell 4 2,.cell 4 3,.cell 4 4],[(.cell 4 5,1)],[(4,6)],[],[.cell 4 0,.cell 4 1,.cell 4 2,.cell 4 3,.cell 4 4],[(.cell 4 5,1)],[.cell 4 0,.cell 4 1,.cell 4 2,.cell 4 3,.cell 4 4],[(.cell 4 5,1)],[]⟩|_=>none
def zkI(a b c d f h:DV)(e:List DV)(g:List OC):Option PX:=za (zc .rem a (U8 25)) fun j=>za (zx .i64 j) fun k=>za (zc .add (I6 1) k) fun l=>za (zc .lss (zf e 0) l) fun m=>ifB m (za (zc .rem (zf e 0) (I6 5)) fun n=>za (uc 5 n) fun o=>za (zx .i64 (atD [b,c,d,f,h] o)) fun p=>gd (fits 8 (xH (yf g 0)+1)) (za (zc .add (zf e 0) (I6 1)) fun q=>some (.normal,[q,zf e 1,zf e 2,zf e 3,zf e 4,zf e 5],[some (z5 (yf g 0)++[[p]])]))) (some (.exit 0,[zf e 1,zf e 2,zf e 3,zf e 4,zf e 5],[yf g 0]))
def P82(O:Orc)(a b c d f h j m r l:DV):Option DA:=za (zc .rem l (I6 10)) fun n=>za (zc .add (I6 48) n) fun o=>za (zx .u8 o) fun p=>za (zra (.lst 1 [[p]])) fun q=>za (zq3 .add (.str ⟨#[82]⟩) q) fun s=>za (zc .rem a (U8 3)) fun t=>za (zO (some [[.str ⟨#[79,112,101,110]⟩],[.str ⟨#[70,108,117,116,101]⟩],[.str ⟨#[82,101,101,100]⟩]]) t) fun v=>za (xY (some [[.str ⟨#[79,112,101,110]⟩],[.str ⟨#[70,108,117,116,101]⟩],[.str ⟨#[82,101,101,100]⟩]]) v) fun w=>bA 2 (O 102 [S1 b]) fun g=>za (zx .i64 c) fun x=>yP (zS (zkI d f h j m r) [I6 0,s,atD w 0,atD g 0,atD g 1,x] [none]) (fun y e k=>bif Nat.beq y 0 then (some (SA [zf e 0,zf e 1,zf e 2,zf e 3,zf e 4,mkL 1 (yf k 0)])) else(none)) (fun _e _k=>none)
theorem p82(O:Orc)(a b c d f h j m r a1:DV):pF O zFv 82 [SA [a,b,c,d,f,h,j,m,r],S1 a1]=P82 O a b c d f h j m r a1:=by kernel_rfl
def P83(O:Orc)(m a b c d f h C:DV):Option DA:=za (zx .i64 c) fun E=>za (zV m) fun F=>za (zc .rem E F) fun g=>za (zc .add (I6 48) C) fun G=>za (zx .u8 G) fun H=>za (zra (.lst 1 [[H]])) fun J=>za (zq3 .add (.str ⟨#[83]⟩) J) fun l=>bA 2 (O 103 [S1 d]) fun e=>za (yb 6 m g) fun q=>bT [none,none] (O 104 [SA [atD e 0,atD e 1],SA [atD q 2,atD q 3]]) fun k=>za (zx .i64 h) fun K=>za (zc .sub b a) fun L=>za (zc .add L (I6 1)) fun M=>za (zc .rem K M) fun N=>za (zc .add a N) fun j=>za (zc .rem f (U8 6)) fun n=>za (zc .eql n (U8 2)) fun P=>ifB P (za (zc .add (dsO (yR k 0)) (I6 7)) fun Q=>some (SA [l,atD e 0,atD e 1,.lst 3 [[a,b,.lst 2 [[g,dsO (yR k 0)],[g,Q]]]]])) (za (zc .eql n (U8 3)) fun R=>ifB R (za (zc .sub (dsO (yR k 0)) (I6 12)) fun r=>za (zc .rem f (U8 6)) fun S=>za (zc .eql S (U8 3)) fun T=>ifB T (za (zc .add g (I6 1)) fun U=>za (zV m) fun V=>za (zc .rem U V) fun o=>za (yb 6 m o) fun s=>bT [none,none] (O 104 [SA [atD e 0,atD e 1],SA [atD s 2,atD s 3]]) fun t=>za (zc .gtr j a) fun W=>ifB W (za (zc .sub j (I6 1)) fun v=>gd (fits 40 1) (gd (fits 40 (xH (some (z5 none++[[a,v,.lst 2 [[g,dsO (yR k 0)]]]]))+1)) (some (SA [l,atD e 0,atD e 1,.lst 3 (z5 (some (z5 none++[[a,v,.lst 2 [[g,dsO (yR k 0)]]]]))++[[j,b,.lst 2 [[o,dsO (yR t 0)]]]])])))) (gd (fits 40 1) (some (SA [l,atD e 0,atD e 1,.lst 3 (z5 none++[[j,b,.lst 2 [[o,dsO (yR t 0)]]]])])))) (za (zc .gtr j a) fun X=>ifB X (za (zc .sub j (I6 1)) fun w=>gd (fits 40 1) (gd (fits 40 (xH (some (z5 none++[[a,w,.lst 2 [[g,dsO (yR k 0)]]]]))+1)) (some (SA [l,atD e 0,atD e 1,.lst 3 (z5 (some (z5 none++[[a,w,.lst 2 [[g,dsO (yR k 0)]]]]))++[[j,b,.lst 2 [[g,r]]]])])))) (gd (fits 40 1) (some (SA [l,atD e 0,atD e 1,.lst 3 (z5 none++[[j,b,.lst 2 [[g,r]]]])]))))) (za (zc .eql n (U8 4)) fun Y=>ifB Y (za (zc .sub (dsO (yR k 0)) (I6 12)) fun x=>za (zc .rem f (U8 6)) fun Z=>za (zc .eql Z (U8 3)) fun aa=>ifB aa (za (zc .add g (I6 1)) fun ab=>za (zV m) fun ac=>za (zc .rem ab ac) fun p=>za (yb 6 m p) fun y=>bT [none,none] (O 104 [SA [atD e 0,atD e 1],SA [atD y 2,atD y 3]]) fun z=>za (zc .gtr j a) fun ad=>ifB ad (za (zc .sub j (I6 1)) fun A=>gd (fits 40 1) (gd (fits 40 (xH (some (z5 none++[[a,A,.lst 2 [[g,dsO (yR k 0)]]]]))+1)) (some (SA [l,atD e 0,atD e 1,.lst 3 (z5 (some (z5 none++[[a,A,.lst 2 [[g,dsO (yR k 0)]]]]))++[[j,b,.lst 2 [[p,dsO (yR z 0)]]]])])))) (gd (fits 40 1) (some (SA [l,atD e 0,atD e 1,.lst 3 (z5 none++[[j,b,.lst 2 [[p,dsO (yR z 0)]]]])])))) (za (zc .gtr j a) fun ae=>ifB ae (za (zc .sub j (I6 1)) fun B=>gd (fits 40 1) (gd (fits 40 (xH (some (z5 none++[[a,B,.lst 2 [[g,dsO (yR k 0)]]]]))+1)) (some (SA [l,atD e 0,atD e 1,.lst 3 (z5 (some (z5 none++[[a,B,.lst 2 [[g,dsO (yR k 0)]]]]))++[[j,b,.lst 2 [[g,x]]]])])))) (gd (fits 40 1) (some (SA [l,atD e 0,atD e 1,.lst 3 (z5 none++[[j,b,.lst 2 [[g,x]]]])]))))) (za (zc .eql n (U8 5)) fun af=>ifB af (some (SA [l,atD e 0,atD e 1,.lst 3 [[j,b,.lst 2 [[g,dsO (yR k 0)]]]]])) (some (SA [l,atD e 0,atD e 1,.lst 3 [[a,b,.lst 2 [[g,dsO (yR k 0)]]]]])))))
theorem p83(O:Orc)(a0 a b c d f h a3:DV):pF O an0 83 [S1 a0,SA [a,b],SA [c,d,f,h],S1 a3]=P83 O a0 a b c d f h a3:=by kernel_rfl
def zFu:Nat->Option LA:=fun i=>match i with|0=>some ⟨[.slot 8],[],[],[],[],[],[.slot 4],[],[]⟩|_=>none
def zjo(O:Orc)(c d e:DV)(a:List DV)(_j:List OC):Option PX:=za (zc .lss (zf a 0) c) fun f=>ifB f (za (yb 4 d (zf a 0)) fun b=>b1 (zjr O e [SA [atD b 0,atD b 1,atD b 2,atD b 3]]) fun g=>ifB g (some (.ret,[zf a 0],[])) (za (zc .add (zf a 0) (I6 1)) fun h=>some (.normal,[h],[]))) (some (.exit 0,[],[]))
def P84(O:Orc)(a c:DV):Option DA:=za (zV a) fun d=>yP (zS (zjo O d a c) [I6 0] []) (fun e _b _f=>bif Nat.beq e 0 then (some (S1 (I6 (-1)))) else(none)) (fun b _f=>some (S1 (zf b 0)))
theorem p84(O:Orc)(a0 a1:DV):pF O zFu 84 [S1 a0,S1 a1]=P84 O a0 a1:=by kernel_rfl
def P89(_O:Orc)(a:DV):Option DA:=za (zc .geq a (U8 65)) fun b=>ifB b (za (zc .leq a (U8 90)) fun c=>ifB c (some (S1 (.bool true))) (za (zc .geq a (U8 97)) fun d=>ifB d (za (zc .leq a (U8 122)) fun e=>some (S1 e)) (some (S1 (.bool false))))) (za (zc .geq a (U8 97)) fun f=>ifB f (za (zc .leq a (U8 122)) fun g=>some (S1 g)) (some (S1 (.bool false))))
theorem p89(O:Orc)(a0:DV):pF O an0 89 [S1 a0]=P89 O a0:=by kernel_rfl
def P90(O:Orc)(a b:DV):Option DA:=b1 (O 108 [SA [a,b]]) fun c=>za (zc .neq c (I6 0)) fun d=>ifB d (some (S1 (I6 2))) (za (zc .leq a (I6 0)) fun e=>ifB e (some (S1 (I6 3))) (za (zc .mul (I6 128) b) fun f=>za (zc .gtr a f) fun g=>ifB g (some (S1 (I6 3))) (za (zc .gtr b (I6 128)) fun h=>ifB h (some (S1 (I6 4))) (some (S1 (I6 0))))))
theorem p90(O:Orc)(a b:DV):pF O an0 90 [SA [a,b]]=P90 O a b:=by kernel_rfl
def P91(_O:Orc)(a:DV):Option DA:=za (zc .geq a (I6 (-256))) fun b=>ifB b (za (zc .leq a (I6 256)) fun c=>some (S1 c)) (some (S1 (.bool false)))
theorem p91(O:Orc)(a0:DV):pF O an0 91 [S1 a0]=P91 O a0:=by kernel_rfl
def P92(O:Orc)(a:DV):Option DA:=b1 (O 109 [S1 a,S1 (.fn 110 [])]) fun b=>ifB b (some (S1 (I6 3))) (some (S1 (I6 0)))
theorem p92(O:Orc)(a0:DV):pF O an0 92 [S1 a0]=P92 O a0:=by kernel_rfl
def P93(_O:Orc)(a b:DV):Option DA:=za (zc .lss a (I6 0)) fun c=>ifB c (some (S1 (I6 3))) (za (zc .gtr b (I6 127)) fun d=>ifB d (some (S1 (I6 3))) (za (zc .gtr a b) fun e=>ifB e (some (S1 (I6 23))) (some (S1 (I6 0)))))
theorem p93(O:Orc)(a b:DV):pF O an0 93 [SA [a,b]]=P93 O a b:=by kernel_rfl
def zFt:Nat->Option LA:=fun i=>match i with|0=>some ⟨[.slot 38],[],[],[],[],[],[.slot 4],[],[]⟩|_=>none
def zkH(O:Orc)(j a b c d:DV)(f:List DV)(_z:List OC):Option PX:=za (zc .lss (zf f 0) j) fun k=>ifB k (za (yb 3 a (zf f 0)) fun e=>za (jI false (atD e 0) [atD e 1]) fun l=>za (zc .lss l b) fun m=>ifB m (some (.ret,[I6 23],[])) (za (jI true (atD e 0) [atD e 1]) fun n=>za (zc .gtr n c) fun o=>ifB o (some (.ret,[I6 23],[])) (za (zc .gtr (atD e 0) (atD e 1)) fun p=>ifB p (some (.ret,[I6 6],[])) (za (zc .gtr (zf f 0) (I6 0)) fun q=>ifB q (za (zc .sub (zf f 0) (I6 1)) fun r=>za (yb 3 a r) fun s=>za (zc .leq (atD e 0) (atD s 1)) fun t=>ifB t (some (.ret,[I6 6],[])) (b1 (O 112 [SA [d,b,c],S1 (atD e 2)]) fun g=>za (zc .neq g (I6 0)) fun v=>ifB v (some (.ret,[g],[])) (za (zc .add (zf f 0) (I6 1)) fun w=>some (.normal,[w],[])))) (b1 (O 112 [SA [d,b,c],S1 (atD e 2)]) fun h=>za (zc .neq h (I6 0)) fun x=>ifB x (some (.ret,[h],[])) (za (zc .add (zf f 0) (I6 1)) fun y=>some (.normal,[y],[]))))))) (some (.exit 1,[],[]))
def P94(O:Orc)(a b c d f h j:DV):Option DA:=b1 (O 111 [SA [a,b,c]]) fun e=>za (zc .neq e (I6 0)) fun l=>ifB l (some (S1 e)) (b1 (O 68 [S1 d]) fun m=>za (zbG m) fun n=>ifB n (some (S1 (I6 8))) (b1 (O 90 [SA [f,h]]) fun g=>za (zc .neq g (I6 0)) fun o=>ifB o (some (S1 g)) (za (zV j) fun p=>za (zc .eql p (I6 0)) fun q=>ifB q (some (S1 (I6 13))) (za (zV j) fun r=>za (zc .gtr r (I6 12)) fun s=>ifB s (some (S1 (I6 4))) (za (zV j) fun t=>yP (zS (zkH O t j b c a) [I6 0] []) (fun v _k _w=>bif Nat.beq v 1 then (some (S1 (I6 0))) else(none)) (fun k _w=>some (S1 (zf k 0))))))))
theorem p94(O:Orc)(a b c d f h j:DV):pF O zFt 94 [SA [a,b,c],SA [d,f,h,j]]=P94 O a b c d f h j:=by kernel_rfl
def P95(O:Orc)(a b:DV):Option DA:=b1 (O 113 [S1 a,S1 b]) fun c=>za (zc .geq c (I6 0)) fun d=>some (S1 d)
theorem p95(O:Orc)(a0 a1:DV):pF O an0 95 [S1 a0,S1 a1]=P95 O a0 a1:=by kernel_rfl
def P96(_O:Orc)(a _b _c _d _f h _j _m _r _s:DV):Option DA:=za (zq3 .eql a h) fun b=>some (S1 b)
theorem p96(O:Orc)(a b c d f h j m r s:DV):pF O an0 96 [SA [a,b,c,d,f],S1 (.fp [h,j,m,r,s] 0)]=P96 O a b c d f h j m r s:=by kernel_rfl
def zET(_O:Orc)(b:DV):Option DA:=za (zc .rem b (U8 16)) fun c=>za (zO (some [[I6 8,I6 1],[I6 4,I6 1],[I6 16,I6 1],[I6 2,I6 1],[I6 8,I6 3],[I6 8,I6 5],[I6 4,I6 3],[I6 1,I6 1],[I6 32,I6 1],[I6 16,I6 3],[I6 16,I6 5],[I6 32,I6 3],[I6 8,I6 7],[I6 2,I6 3],[I6 1,I6 2],[I6 64,I6 1]]) c) fun d=>za (xY (some [[I6 8,I6 1],[I6 4,I6 1],[I6 16,I6 1],[I6 2,I6 1],[I6 8,I6 3],[I6 8,I6 5],[I6 4,I6 3],[I6 1,I6 1],[I6 32,I6 1],[I6 16,I6 3],[I6 16,I6 5],[I6 32,I6 3],[I6 8,I6 7],[I6 2,I6 3],[I6 1,I6 2],[I6 64,I6 1]]) d) fun a=>some (SA [atD a 0,atD a 1])
theorem zGt(O:Orc)(a0:DV):pF O an0 102 [S1 a0]=zET O a0:=by kernel_rfl
def zES(_O:Orc)(b:DV):Option DA:=za (zc .rem b (U8 6)) fun c=>za (zO (some [[I6 8,I6 1],[I6 4,I6 1],[I6 16,I6 1],[I6 8,I6 3],[I6 2,I6 1],[I6 8,I6 5]]) c) fun d=>za (xY (some [[I6 8,I6 1],[I6 4,I6 1],[I6 16,I6 1],[I6 8,I6 3],[I6 2,I6 1],[I6 8,I6 5]]) d) fun a=>some (SA [atD a 0,atD a 1])
theorem zGs(O:Orc)(a0:DV):pF O an0 103 [S1 a0]=zES O a0:=by kernel_rfl
def zER(O:Orc)(a b c d:DV):Option DA:=b1 (O 120 [SA [a,b],SA [c,d]]) fun e=>za (zc .neq e (I6 0)) fun f=>ifB f (some (.tup [.one (I6 0),.one e])) (b1 (O 121 [SA [a,b],SA [c,d]]) fun g=>some (.tup [.one g,.one (I6 0)]))
theorem zGr(O:Orc)(a b c d:DV):pF O an0 104 [SA [a,b],SA [c,d]]=zER O a b c d:=by kernel_rfl
def zEQ(O:Orc)(a b:DV):Option DA:=za (zc .leq b (I6 0)) fun c=>ifB c (some (S1 (I6 2))) (za (zc .gtr b (I6 1000000)) fun d=>ifB d (some (S1 (I6 2))) (za (zc .lss a (I6 (-1000000))) fun e=>ifB e (some (S1 (I6 2))) (za (zc .gtr a (I6 1000000)) fun f=>ifB f (some (S1 (I6 2))) (b1 (O 123 [S1 a]) fun g=>za (zx .u64 b) fun h=>b1 (O 122 [S1 g,S1 h]) fun j=>za (zc .neq j (U64 1)) fun k=>ifB k (some (S1 (I6 2))) (some (S1 (I6 0)))))))
theorem zGq(O:Orc)(a b:DV):pF O an0 108 [SA [a,b]]=zEQ O a b:=by kernel_rfl
def zEP(O:Orc)(a b:DV):Option DA:=b1 (O 124 [S1 a,S1 b]) fun c=>za (zc .geq c (I6 0)) fun d=>some (S1 d)
theorem zGp(O:Orc)(a0 a1:DV):pF O an0 109 [S1 a0,S1 a1]=zEP O a0 a1:=by kernel_rfl
def zEO(_O:Orc)(a:DV):Option DA:=za (zc .lss a (I6 0)) fun b=>ifB b (some (S1 (.bool true))) (za (zc .gtr a (I6 1000000)) fun c=>some (S1 c))
theorem zGo(O:Orc)(a0:DV):pF O an0 110 [S1 a0]=zEO O a0:=by kernel_rfl
def zB2:Nat->Option LA:=fun i=>match i with|0=>some ⟨[.slot 13],[],[],[],[],[],[.slot 2],[],[]⟩|_=>none
def zkY(O:Orc)(e a:DV)(c:List DV)(_j:List OC):Option PX:=za (zc .lss (zf c 0) e) fun f=>ifB f (za (yb 6 a (zf c 0)) fun b=>b1 (O 69 [SA [atD b 0,atD b 1,atD b 2,atD b 3,atD b 4,atD b 5]]) fun d=>za (zc .neq d (I6 0)) fun g=>ifB g (some (.ret,[d],[])) (za (zc .add (zf c 0) (I6 1)) fun h=>some (.normal,[h],[]))) (some (.exit 0,[],[]))
def zEN(O:Orc)(a b c:DV):Option DA:=za (zV a) fun e=>za (zc .gtr e (I6 60)) fun f=>ifB f (some (S1 (I6 4))) (za (zV a) fun g=>yP (zS (zkY O g a) [I6 0] []) (fun h _d _j=>bif Nat.beq h 0 then (b1 (O 93 [SA [b,c]]) fun k=>some (S1 k)) else(none)) (fun d _j=>some (S1 (zf d 0))))
theorem zGn(O:Orc)(a b c:DV):pF O zB2 111 [SA [a,b,c]]=zEN O a b c:=by kernel_rfl
def zB1:Nat->Option LA:=fun i=>match i with|0=>some ⟨[.slot 12],[],[],[],[],[],[.slot 4],[],[]⟩|_=>none
def zkX(O:Orc)(e d a:DV)(c:List DV)(_p:List OC):Option PX:=za (zc .lss (zf c 0) e) fun f=>ifB f (za (yb 2 d (zf c 0)) fun b=>za (zc .lss (atD b 0) (I6 0)) fun g=>ifB g (some (.ret,[I6 10],[])) (za (zV a) fun h=>za (zc .geq (atD b 0) h) fun j=>ifB j (some (.ret,[I6 10],[])) (za (zc .lss (atD b 1) (I6 (-127))) fun k=>ifB k (some (.ret,[I6 3],[])) (za (zc .gtr (atD b 1) (I6 127)) fun l=>ifB l (some (.ret,[I6 3],[])) (za (za0 2 d none (some (zf c 0))) fun m=>b1 (O 125 [S1 m,SA [atD b 0,atD b 1]]) fun n=>ifB n (some (.ret,[I6 9],[])) (za (zc .add (zf c 0) (I6 1)) fun o=>some (.normal,[o],[]))))))) (some (.exit 0,[],[]))
def zEM(O:Orc)(a _b _c b:DV):Option DA:=za (zV b) fun d=>za (zc .gtr d (I6 8)) fun e=>ifB e (some (S1 (I6 4))) (za (zV b) fun f=>yP (zS (zkX O f b a) [I6 0] []) (fun g _c _h=>bif Nat.beq g 0 then (some (S1 (I6 0))) else(none)) (fun c _h=>some (S1 (zf c 0))))
theorem zGm(O:Orc)(a b c a1:DV):pF O zB1 112 [SA [a,b,c],S1 a1]=zEM O a b c a1:=by kernel_rfl
def zB0:Nat->Option LA:=fun i=>match i with|0=>some ⟨[.slot 8],[],[],[],[],[],[.slot 4],[],[]⟩|_=>none
def zkW(O:Orc)(c d e:DV)(b:List DV)(_j:List OC):Option PX:=za (zc .lss (zf b 0) c) fun f=>ifB f (za (yb 5 d (zf b 0)) fun a=>b1 (zjr O e [SA [atD a 0,atD a 1,atD a 2,atD a 3,atD a 4]]) fun g=>ifB g (some (.ret,[zf b 0],[])) (za (zc .add (zf b 0) (I6 1)) fun h=>some (.normal,[h],[]))) (some (.exit 0,[],[]))
def zEL(O:Orc)(a c:DV):Option DA:=za (zV a) fun d=>yP (zS (zkW O d a c) [I6 0] []) (fun e _b _f=>bif Nat.beq e 0 then (some (S1 (I6 (-1)))) else(none)) (fun b _f=>some (S1 (zf b 0)))
theorem zGl(O:Orc)(a0 a1:DV):pF O zB0 113 [S1 a0,S1 a1]=zEL O a0 a1:=by kernel_rfl
def zEK(O:Orc)(a b c d:DV):Option DA:=b1 (O 90 [SA [a,b]]) fun e=>za (zc .neq e (I6 0)) fun f=>ifB f (some (S1 e)) (b1 (O 90 [SA [c,d]]) fun g=>some (S1 g))
theorem zGk(O:Orc)(a b c d:DV):pF O an0 120 [SA [a,b],SA [c,d]]=zEK O a b c d:=by kernel_rfl
def zBZ:Nat->Option LA:=fun i=>match i with|0=>some ⟨[.slot 5,.slot 7],[],[],[],[.slot 5,.slot 7],[],[],[],[]⟩|1=>some ⟨[.slot 6,.slot 7],[],[],[],[.slot 6,.slot 7],[],[],[],[]⟩|2=>some ⟨[.slot 12,.slot 7],[],[],[],[.slot 7],[],[],[],[]⟩|_=>none
def zgx(O:Orc)(b:List DS)(a:List DV)(_g:List OC):Option PX:=b1 (O 138 [S1 (dsO (yR b 0)),S1 (zf a 0)]) fun c=>za (zc .gtr c (I6 0)) fun d=>ifB d (za (zc .add (zf a 1) (I6 1)) fun e=>b1 (O 137 [S1 (zf a 0),S1 (.str ⟨#[52]⟩)]) fun f=>some (.normal,[f,e],[])) (some (.exit 4,[zf a 1],[]))
def zea(b:List DV)(a:List DV)(_g:List OC):Option PX:=za (zc .mul (I6 2) (zf a 0)) fun c=>za (zc .geq (zf b 0) c) fun d=>ifB d (za (zc .mul (zf a 0) (I6 2)) fun e=>za (zc .add (zf a 1) (I6 12)) fun f=>some (.normal,[e,f],[])) (some (.exit 2,[zf a 0,zf a 1],[]))
def zhH(b:DV)(a:List DV)(_f:List OC):Option PX:=za (zc .lss (zf a 0) b) fun c=>ifB c (za (zc .mul (zf a 0) (I6 2)) fun d=>za (zc .sub (zf a 1) (I6 12)) fun e=>some (.normal,[d,e],[])) (some (.exit 0,[zf a 0,zf a 1],[]))
def zEJ(O:Orc)(a b c d:DV):Option DA:=za (zc .mul c b) fun j=>za (zc .mul d a) fun g=>yP (zS (zhH g) [j,I6 0] []) (fun k e _l=>bif Nat.beq k 0 then (yP (zS (zea e) [g,zf e 1] []) (fun m f _n=>bif Nat.beq m 2 then (b1 (O 136 [S1 (zf e 0)]) fun o=>bT [none,none] (O 135 [S1 o,S1 (I6 24)]) fun p=>b1 (O 136 [S1 (zf f 0)]) fun q=>bT [none,none] (O 135 [S1 q,S1 (I6 24)]) fun r=>b1 (O 137 [S1 (dsO (yR r 0)),S1 (.str ⟨#[50]⟩)]) fun s=>yP (zS (zgx O p) [s,zf f 1] []) (fun t h _v=>bif Nat.beq t 4 then (some (S1 (zf h 0))) else(none)) (fun _h _v=>none)) else(none)) (fun _f _n=>none)) else(none)) (fun _e _l=>none)
theorem zGj(O:Orc)(a b c d:DV):pF O zBZ 121 [SA [a,b],SA [c,d]]=zEJ O a b c d:=by kernel_rfl
def zBY:Nat->Option LA:=fun i=>match i with|0=>some ⟨[.slot 1,.slot 0],[],[],[],[.slot 0],[],[],[],[]⟩|_=>none
def zox(a:List DV)(_d:List OC):Option PX:=za (zc .gtr (zf a 0) (U64 0)) fun b=>ifB b (za (zc .rem (zf a 1) (zf a 0)) fun c=>some (.normal,[c,zf a 0],[])) (some (.exit 0,[zf a 1],[]))
def zEI(_O:Orc)(b c:DV):Option DA:=yP (zS zox [c,b] []) (fun d a _e=>bif Nat.beq d 0 then (some (S1 (zf a 0))) else(none)) (fun _a _e=>none)
theorem zGi(O:Orc)(a0 a1:DV):pF O zBY 122 [S1 a0,S1 a1]=zEI O a0 a1:=by kernel_rfl
def zEH(_O:Orc)(a:DV):Option DA:=za (zc .lss a (I6 0)) fun b=>ifB b (za (zx .u64 a) fun c=>za (zAn c) fun d=>some (S1 d)) (za (zx .u64 a) fun e=>some (S1 e))
theorem zGh(O:Orc)(a0:DV):pF O an0 123 [S1 a0]=zEH O a0:=by kernel_rfl
def zBX:Nat->Option LA:=fun i=>match i with|0=>some ⟨[.slot 8],[],[],[],[],[],[.slot 4],[],[]⟩|_=>none
def zkV(O:Orc)(b c d:DV)(a:List DV)(_j:List OC):Option PX:=za (zc .lss (zf a 0) b) fun e=>ifB e (za (yb 1 c (zf a 0)) fun f=>b1 (zjr O d [S1 (atD f 0)]) fun g=>ifB g (some (.ret,[zf a 0],[])) (za (zc .add (zf a 0) (I6 1)) fun h=>some (.normal,[h],[]))) (some (.exit 0,[],[]))
def zEG(O:Orc)(a c:DV):Option DA:=za (zV a) fun d=>yP (zS (zkV O d a c) [I6 0] []) (fun e _b _f=>bif Nat.beq e 0 then (some (S1 (I6 (-1)))) else(none)) (fun b _f=>some (S1 (zf b 0)))
theorem zGg(O:Orc)(a0 a1:DV):pF O zBX 124 [S1 a0,S1 a1]=zEG O a0 a1:=by kernel_rfl
def zEF(O:Orc)(c a b:DV):Option DA:=b1 (O 139 [S1 c,SA [a,b]]) fun d=>za (zc .geq d (I6 0)) fun e=>some (S1 e)
theorem zGf(O:Orc)(a0 a b:DV):pF O an0 125 [S1 a0,SA [a,b]]=zEF O a0 a b:=by kernel_rfl
def zBW:Nat->Option LA:=fun i=>match i with|0=>some ⟨[.slot 8],[],[],[],[],[],[.slot 4],[],[]⟩|_=>none
def zkU(e f a b:DV)(c:List DV)(_k:List OC):Option PX:=za (zc .lss (zf c 0) e) fun g=>ifB g (za (yb 2 f (zf c 0)) fun d=>za (zvi [1,1] [a,b] [atD d 0,atD d 1]) fun h=>ifB (.bool h) (some (.ret,[zf c 0],[])) (za (zc .add (zf c 0) (I6 1)) fun j=>some (.normal,[j],[]))) (some (.exit 0,[],[]))
def zEE(_O:Orc)(c a b:DV):Option DA:=za (zV c) fun e=>yP (zS (zkU e c a b) [I6 0] []) (fun f _d _g=>bif Nat.beq f 0 then (some (S1 (I6 (-1)))) else(none)) (fun d _g=>some (S1 (zf d 0)))
theorem zGe(O:Orc)(a0 a b:DV):pF O zBW 139 [S1 a0,SA [a,b]]=zEE O a0 a b:=by kernel_rfl
def qj:Nat->Option LA:=fun i=>match i with|0=>some ⟨[.cell 0 1,.cell 0 2],[(.cell 0 0,1)],[(0,3)],[],[.cell 0 1,.cell 0 2],[(.cell 0 0,1)],[.cell 0 1,.cell 0 2],[(.cell 0 0,1)],[]⟩|_=>none
def u1(a:DV)(c:List DV)(b:List OC):Option PX:=za (zc .rem a (U8 4)) fun d=>za (zx .i64 d) fun e=>za (zc .add (I6 200) e) fun f=>za (zc .lss (I6 (Int.ofNat (xH (yf b 0)))) f) fun g=>ifB g (za (zc .sub (I6 (Int.ofNat (xH (yf b 0)))) (I6 1)) fun h=>za (zO (yf b 0) h) fun j=>za (xY (yf b 0) j) fun k=>za (zc .add (atD k 0) (I6 1)) fun l=>gd (fits 8 (xH (yf b 0)+1)) (some (.normal,[zf c 0,zf c 1],[some (z5 (yf b 0)++[[l]])]))) (some (.exit 1,[zf c 0,zf c 1],[yf b 0]))
def wt(a:DV)(d:List (List DV))(b:DV)(c:DV)(f:DV)(g:DV):Option DA:=za (zx .i64 a) fun j=>za (zc .rem j (I6 (Int.ofNat (xH (zP (some []) d))))) fun k=>za (zO (zP (some []) d) k) fun e=>za (zc .rem b (U8 12)) fun h=>za (zc .eql h (U8 8)) fun l=>ifB l (za (xY (zP (some []) d) e) fun m=>za (zx .i64 c) fun n=>za (zc .add (atD m 2) n) fun o=>za (zaR 4 (zP (some []) d) e 2 [o]) fun p=>some (SA [f,mkL 4 p,g])) (za (zc .eql h (U8 9)) fun q=>ifB q (za (xY (zP (some []) d) e) fun r=>za (zx .i64 c) fun s=>za (zc .add (atD r 3) s) fun t=>za (zaR 4 (zP (some []) d) e 3 [t]) fun v=>some (SA [f,mkL 4 v,g])) (za (zc .eql h (U8 10)) fun w=>ifB w (za (xY (zP (some []) d) e) fun x=>za (zx .i64 c) fun y=>za (zc .add (atD x 0) y) fun z=>za (zaR 4 (zP (some []) d) e 0 [z]) fun A=>some (SA [f,mkL 4 A,g])) (za (zc .eql h (U8 11)) fun B=>ifB B (za (xY (zP (some []) d) e) fun C=>za (zx .i64 c) fun E=>za (zc .add (atD C 1) E) fun F=>za (zaR 4 (zP (some []) d) e 1 [F]) fun G=>some (SA [f,mkL 4 G,g])) (some (SA [f,mkL 4 (zP (some []) d),g])))))
def wy(a:DV)(b:DV)(c:DV)(f:DV)(g:DV):Option DA:=za (zx .i64 a) fun h=>za (zV .nils) fun j=>za (zc .rem h j) fun k=>za (yb 4 .nils k) fun d=>za (zc .rem b (U8 12)) fun e=>za (zc .eql e (U8 8)) fun l=>ifB l (za (zx .i64 c) fun m=>za (zc .add (atD d 2) m) fun _t=>none) (za (zc .eql e (U8 9)) fun n=>ifB n (za (zx .i64 c) fun o=>za (zc .add (atD d 3) o) fun _v=>none) (za (zc .eql e (U8 10)) fun p=>ifB p (za (zx .i64 c) fun q=>za (zc .add (atD d 0) q) fun _w=>none) (za (zc .eql e (U8 11)) fun r=>ifB r (za (zx .i64 c) fun s=>za (zc .add (atD d 1) s) fun _x=>none) (some (SA [f,.nils,g])))))
def jd(a:DV)(e:List (List DV))(b:DV)(c:DV)(d:List (List DV))(f:DV):Option DA:=za (zx .i64 a) fun l=>za (zc .rem l (I6 (Int.ofNat (xH (zP (some []) e))))) fun m=>za (zO (zP (some []) e) m) fun g=>za (zc .rem b (U8 12)) fun h=>za (zc .eql h (U8 6)) fun n=>ifB n (za (xY (zP (some []) e) g) fun o=>za (zx .i64 c) fun p=>za (zc .add (atD o 0) p) fun q=>za (zaR 4 (zP (some []) e) g 0 [q]) fun j=>za (zc .eql (I6 (Int.ofNat (xH (zP (some []) d)))) (I6 0)) fun r=>ifB r (some (SA [f,mkL 4 (zP (some []) d),(mkL 4 j)])) (wt a d b c f (mkL 4 j))) (za (zc .eql h (U8 7)) fun s=>ifB s (za (xY (zP (some []) e) g) fun t=>za (zc .rem a (U8 64)) fun v=>za (zq true (U64 1) v) fun w=>za (zc .or (atD t 2) w) fun x=>za (zaR 4 (zP (some []) e) g 2 [x]) fun k=>za (zc .eql (I6 (Int.ofNat (xH (zP (some []) d)))) (I6 0)) fun y=>ifB y (some (SA [f,mkL 4 (zP (some []) d),(mkL 4 k)])) (wt a d b c f (mkL 4 k))) (za (zc .eql (I6 (Int.ofNat (xH (zP (some []) d)))) (I6 0)) fun z=>ifB z (some (SA [f,mkL 4 (zP (some []) d),(mkL 4 (zP (some []) e))])) (wt a d b c f (mkL 4 (zP (some []) e)))))
def jc(a:DV)(d:List (List DV))(b:DV)(c:DV)(e:DV):Option DA:=za (zx .i64 a) fun k=>za (zc .rem k (I6 (Int.ofNat (xH (zP (some []) d))))) fun l=>za (zO (zP (some []) d) l) fun f=>za (zc .rem b (U8 12)) fun g=>za (zc .eql g (U8 6)) fun m=>ifB m (za (xY (zP (some []) d) f) fun n=>za (zx .i64 c) fun o=>za (zc .add (atD n 0) o) fun p=>za (zaR 4 (zP (some []) d) f 0 [p]) fun h=>za (zV .nils) fun q=>za (zc .eql q (I6 0)) fun r=>ifB r (some (SA [e,.nils,(mkL 4 h)])) (wy a b c e (mkL 4 h))) (za (zc .eql g (U8 7)) fun s=>ifB s (za (xY (zP (some []) d) f) fun t=>za (zc .rem a (U8 64)) fun v=>za (zq true (U64 1) v) fun w=>za (zc .or (atD t 2) w) fun x=>za (zaR 4 (zP (some []) d) f 2 [x]) fun j=>za (zV .nils) fun y=>za (zc .eql y (I6 0)) fun z=>ifB z (some (SA [e,.nils,(mkL 4 j)])) (wy a b c e (mkL 4 j))) (za (zV .nils) fun A=>za (zc .eql A (I6 0)) fun B=>ifB B (some (SA [e,.nils,(mkL 4 (zP (some []) d))])) (wy a b c e (mkL 4 (zP (some []) d)))))
def jp(a:DV)(b:DV)(c:DV)(d:List (List DV))(e:DV):Option DA:=za (zx .i64 a) fun h=>za (zV .nils) fun j=>za (zc .rem h j) fun k=>za (yb 4 .nils k) fun f=>za (zc .rem b (U8 12)) fun g=>za (zc .eql g (U8 6)) fun l=>ifB l (za (zx .i64 c) fun m=>za (zc .add (atD f 0) m) fun _r=>none) (za (zc .eql g (U8 7)) fun n=>ifB n (za (zc .rem a (U8 64)) fun o=>za (zq true (U64 1) o) fun p=>za (zc .or (atD f 2) p) fun _s=>none) (za (zc .eql (I6 (Int.ofNat (xH (zP (some []) d)))) (I6 0)) fun q=>ifB q (some (SA [e,mkL 4 (zP (some []) d),.nils])) (wt a d b c e .nils)))
def jo(a:DV)(b:DV)(c:DV)(d:DV):Option DA:=za (zx .i64 a) fun g=>za (zV .nils) fun h=>za (zc .rem g h) fun j=>za (yb 4 .nils j) fun e=>za (zc .rem b (U8 12)) fun f=>za (zc .eql f (U8 6)) fun k=>ifB k (za (zx .i64 c) fun l=>za (zc .add (atD e 0) l) fun _r=>none) (za (zc .eql f (U8 7)) fun m=>ifB m (za (zc .rem a (U8 64)) fun n=>za (zq true (U64 1) n) fun o=>za (zc .or (atD e 2) o) fun _s=>none) (za (zV .nils) fun p=>za (zc .eql p (I6 0)) fun q=>ifB q (some (SA [d,.nils,.nils])) (wy a b c d .nils)))
def jv(d:List DV)(g:DV)(a:DV)(b:DV)(c:DV):Option DA:=za (zV (zf d 0)) fun h=>za (zc .eql h (I6 0)) fun j=>ifB j (some (SA [g,zf d 0,(zf d 1)])) (za (zx .i64 a) fun k=>za (zV (zf d 0)) fun l=>za (zc .rem k l) fun m=>za (yb 4 (zf d 0) m) fun e=>za (zc .rem b (U8 12)) fun f=>za (zc .eql f (U8 8)) fun n=>ifB n (za (zx .i64 c) fun o=>za (zc .add (atD e 2) o) fun _w=>none) (za (zc .eql f (U8 9)) fun p=>ifB p (za (zx .i64 c) fun q=>za (zc .add (atD e 3) q) fun _x=>none) (za (zc .eql f (U8 10)) fun r=>ifB r (za (zx .i64 c) fun s=>za (zc .add (atD e 0) s) fun _y=>none) (za (zc .eql f (U8 11)) fun t=>ifB t (za (zx .i64 c) fun v=>za (zc .add (atD e 1) v) fun _z=>none) (some (SA [g,zf d 0,(zf d 1)]))))))
def jN(d:List (List DV))(e:DV)(f:List (List DV))(g:DV)(h:Nat)(a:DV)(b:DV)(c:DV):Option DA:=za (zc .eql (I6 (Int.ofNat (xH (zP (some []) d)))) (I6 0)) fun j=>ifB j (some (SA [e,mkL 4 (zP (some []) d),(.lst 4 (z5 (zP (some []) f)++[[g,.lst 1 (List.replicate h [U64 0]),U64 0,U64 0]]))])) (wt a d b c e (.lst 4 (z5 (zP (some []) f)++[[g,.lst 1 (List.replicate h [U64 0]),U64 0,U64 0]])))
def jM(d:List (List DV))(e:DV)(f:DV)(g:Nat)(a:DV)(b:DV)(c:DV):Option DA:=za (zc .eql (I6 (Int.ofNat (xH (zP (some []) d)))) (I6 0)) fun h=>ifB h (some (SA [e,mkL 4 (zP (some []) d),(.lst 4 (z5 none++[[f,.lst 1 (List.replicate g [U64 0]),U64 0,U64 0]]))])) (wt a d b c e (.lst 4 (z5 none++[[f,.lst 1 (List.replicate g [U64 0]),U64 0,U64 0]])))
def jL(d:DV)(e:List (List DV))(f:DV)(g:Nat)(a:DV)(b:DV)(c:DV):Option DA:=za (zV .nils) fun h=>za (zc .eql h (I6 0)) fun j=>ifB j (some (SA [d,.nils,(.lst 4 (z5 (zP (some []) e)++[[f,.lst 1 (List.replicate g [U64 0]),U64 0,U64 0]]))])) (wy a b c d (.lst 4 (z5 (zP (some []) e)++[[f,.lst 1 (List.replicate g [U64 0]),U64 0,U64 0]])))
def jE(d:DV)(e:DV)(f:Nat)(a:DV)(b:DV)(c:DV):Option DA:=za (zV .nils) fun g=>za (zc .eql g (I6 0)) fun h=>ifB h (some (SA [d,.nils,(.lst 4 (z5 none++[[e,.lst 1 (List.replicate f [U64 0]),U64 0,U64 0]]))])) (wy a b c d (.lst 4 (z5 none++[[e,.lst 1 (List.replicate f [U64 0]),U64 0,U64 0]])))
def u5(d:List DV)(a:DV)(b:DV)(c:DV)(e:DV):Option DA:=za (zV (zf d 1)) fun h=>za (zc .gtr h (I6 0)) fun j=>ifB j (za (zx .i64 a) fun k=>za (zV (zf d 1)) fun l=>za (zc .rem k l) fun m=>za (yb 4 (zf d 1) m) fun f=>za (zc .rem b (U8 12)) fun g=>za (zc .eql g (U8 6)) fun n=>ifB n (za (zx .i64 c) fun o=>za (zc .add (atD f 0) o) fun _s=>none) (za (zc .eql g (U8 7)) fun p=>ifB p (za (zc .rem a (U8 64)) fun q=>za (zq true (U64 1) q) fun r=>za (zc .or (atD f 2) r) fun _t=>none) (jv d e a b c))) (jv d e a b c)
def P21(_O:Orc)(aA:List (List DV))(a b c d f:DV):Option DA:=za (yq 1 (.lst 1 aA)) fun e=>gd (fits 8 (xH (some [])+(e:List (List DV)).length)) (za (zdA a) fun aB=>ifB (.bool aB) (za (zdA b) fun aC=>ifB (.bool aC) (za (zx .i64 d) fun aE=>za (zc .rem aE (I6 (Int.ofNat (xH (zP (some []) e))))) fun G=>za (zc .rem c (U8 12)) fun x=>za (zc .eql x (U8 1)) fun aF=>ifB aF (za (zO (zP (some []) e) G) fun aG=>za (xY (zP (some []) e) aG) fun aH=>za (zx .i64 f) fun aJ=>za (zc .add (atD aH 0) aJ) fun aK=>za (zO (zP (some []) e) G) fun aL=>za (zaR 1 (zP (some []) e) aL 0 [aK]) fun H=>za (zV .nils) fun aM=>za (zc .gtr aM (I6 0)) fun aN=>ifB aN (jo d c f (mkL 1 H)) (za (zV .nils) fun aP=>za (zc .eql aP (I6 0)) fun aQ=>ifB aQ (some (SA [(mkL 1 H),.nils,.nils])) (wy d c f (mkL 1 H) .nils))) (za (zc .eql x (U8 2)) fun aR=>ifB aR (za (vwB none (some G) (xH (zP (some []) e))) fun s=>za (zV .nils) fun aS=>za (zc .gtr aS (I6 0)) fun aT=>ifB aT (jo d c f (zud 1 s.1 s.2 (mkL 1 (zP (some []) e)))) (za (zV .nils) fun aU=>za (zc .eql aU (I6 0)) fun aV=>ifB aV (some (SA [(zud 1 s.1 s.2 (mkL 1 (zP (some []) e))),.nils,.nils])) (wy d c f (zud 1 s.1 s.2 (mkL 1 (zP (some []) e))) .nils))) (za (zc .eql x (U8 3)) fun aW=>ifB aW (yP (zS (u1 d) [.nils,.nils] [zP (some []) e]) (fun ac J K=>bif Nat.beq ac 1 then (u5 J d c f (mkL 1 (yf K 0))) else(bif Nat.beq ac 0 then (u5 J d c f (mkL 1 (yf K 0))) else(none))) (fun _J _K=>none)) (za (zc .eql x (U8 4)) fun aX=>ifB aX (za (zc .rem d (U8 5)) fun aY=>za (zx .i64 aY) fun aZ=>za (zc .add (I6 99998) aZ) fun L=>gd (fits 8 (xH (zP (some []) e)+1)) (za (zV .nils) fun ba=>za (zc .gtr ba (I6 0)) fun bb=>ifB bb (jo d c f (.lst 1 (z5 (zP (some []) e)++[[L]]))) (za (zV .nils) fun bc=>za (zc .eql bc (I6 0)) fun bd=>ifB bd (some (SA [(.lst 1 (z5 (zP (some []) e)++[[L]])),.nils,.nils])) (wy d c f (.lst 1 (z5 (zP (some []) e)++[[L]])) .nils)))) (za (zc .eql x (U8 5)) fun be=>ifB be (za (zx .i64 f) fun k=>za (zc .rem d (U8 5)) fun ad=>za (mkN 8 ad ad) fun l=>gd (fits 48 1) (za (zc .gtr (I6 (Int.ofNat (xH (some (z5 none++[[k,.lst 1 (List.replicate l [U64 0]),U64 0,U64 0]]))))) (I6 0)) fun bf=>ifB bf (za (zx .i64 d) fun bg=>za (zc .rem bg (I6 (Int.ofNat (xH (some (z5 none++[[k,.lst 1 (List.replicate l [U64 0]),U64 0,U64 0]])))))) fun bh=>za (zO (some (z5 none++[[k,.lst 1 (List.replicate l [U64 0]),U64 0,U64 0]])) bh) fun B=>za (zc .rem c (U8 12)) fun ae=>za (zc .eql ae (U8 6)) fun bj=>ifB bj (za (xY (some (z5 none++[[k,.lst 1 (List.replicate l [U64 0]),U64 0,U64 0]])) B) fun bk=>za (zx .i64 f) fun bl=>za (zc .add (atD bk 0) bl) fun bm=>za (zaR 4 (some (z5 none++[[k,.lst 1 (List.replicate l [U64 0]),U64 0,U64 0]])) B 0 [bm]) fun af=>za (zV .nils) fun bn=>za (zc .eql bn (I6 0)) fun bo=>ifB bo (some (SA [(mkL 1 (zP (some []) e)),.nils,(mkL 4 af)])) (wy d c f (mkL 1 (zP (some []) e)) (mkL 4 af))) (za (zc .eql ae (U8 7)) fun bp=>ifB bp (za (xY (some (z5 none++[[k,.lst 1 (List.replicate l [U64 0]),U64 0,U64 0]])) B) fun bq=>za (zc .rem d (U8 64)) fun br=>za (zq true (U64 1) br) fun bs=>za (zc .or (atD bq 2) bs) fun bt=>za (zaR 4 (some (z5 none++[[k,.lst 1 (List.replicate l [U64 0]),U64 0,U64 0]])) B 2 [bt]) fun ag=>za (zV .nils) fun bu=>za (zc .eql bu (I6 0)) fun bv=>ifB bv (some (SA [(mkL 1 (zP (some []) e)),.nils,(mkL 4 ag)])) (wy d c f (mkL 1 (zP (some []) e)) (mkL 4 ag))) (jE (mkL 1 (zP (some []) e)) k l d c f))) (jE (mkL 1 (zP (some []) e)) k l d c f))) (za (zV .nils) fun bw=>za (zc .gtr bw (I6 0)) fun bx=>ifB bx (jo d c f (mkL 1 (zP (some []) e))) (za (zV .nils) fun bz=>za (zc .eql bz (I6 0)) fun bA=>ifB bA (some (SA [(mkL 1 (zP (some []) e)),.nils,.nils])) (wy d c f (mkL 1 (zP (some []) e)) .nils)))))))) (za (yq 4 b) fun h=>gd (fits 48 (xH (some [])+(h:List (List DV)).length)) (za (zx .i64 d) fun bB=>za (zc .rem bB (I6 (Int.ofNat (xH (zP (some []) e))))) fun M=>za (zc .rem c (U8 12)) fun y=>za (zc .eql y (U8 1)) fun bC=>ifB bC (za (zO (zP (some []) e) M) fun bE=>za (xY (zP (some []) e) bE) fun bF=>za (zx .i64 f) fun bG=>za (zc .add (atD bF 0) bG) fun bH=>za (zO (zP (some []) e) M) fun bJ=>za (zaR 1 (zP (some []) e) bJ 0 [bH]) fun N=>za (zc .gtr (I6 (Int.ofNat (xH (zP (some []) h)))) (I6 0)) fun bK=>ifB bK (jc d h c f (mkL 1 N)) (za (zV .nils) fun bL=>za (zc .eql bL (I6 0)) fun bM=>ifB bM (some (SA [(mkL 1 N),.nils,(mkL 4 (zP (some []) h))])) (wy d c f (mkL 1 N) (mkL 4 (zP (some []) h))))) (za (zc .eql y (U8 2)) fun bN=>ifB bN (za (vwB none (some M) (xH (zP (some []) e))) fun t=>za (zc .gtr (I6 (Int.ofNat (xH (zP (some []) h)))) (I6 0)) fun bP=>ifB bP (jc d h c f (zud 1 t.1 t.2 (mkL 1 (zP (some []) e)))) (za (zV .nils) fun bQ=>za (zc .eql bQ (I6 0)) fun bR=>ifB bR (some (SA [(zud 1 t.1 t.2 (mkL 1 (zP (some []) e))),.nils,(mkL 4 (zP (some []) h))])) (wy d c f (zud 1 t.1 t.2 (mkL 1 (zP (some []) e))) (mkL 4 (zP (some []) h))))) (za (zc .eql y (U8 3)) fun bS=>ifB bS (yP (zS (u1 d) [.nils,mkL 4 (zP (some []) h)] [zP (some []) e]) (fun ah P Q=>bif Nat.beq ah 1 then (u5 P d c f (mkL 1 (yf Q 0))) else(bif Nat.beq ah 0 then (u5 P d c f (mkL 1 (yf Q 0))) else(none))) (fun _P _Q=>none)) (za (zc .eql y (U8 4)) fun bT=>ifB bT (za (zc .rem d (U8 5)) fun bU=>za (zx .i64 bU) fun bV=>za (zc .add (I6 99998) bV) fun R=>gd (fits 8 (xH (zP (some []) e)+1)) (za (zc .gtr (I6 (Int.ofNat (xH (zP (some []) h)))) (I6 0)) fun bW=>ifB bW (jc d h c f (.lst 1 (z5 (zP (some []) e)++[[R]]))) (za (zV .nils) fun bX=>za (zc .eql bX (I6 0)) fun bY=>ifB bY (some (SA [(.lst 1 (z5 (zP (some []) e)++[[R]])),.nils,(mkL 4 (zP (some []) h))])) (wy d c f (.lst 1 (z5 (zP (some []) e)++[[R]])) (mkL 4 (zP (some []) h)))))) (za (zc .eql y (U8 5)) fun bZ=>ifB bZ (za (zx .i64 f) fun m=>za (zc .rem d (U8 5)) fun aj=>za (mkN 8 aj aj) fun n=>gd (fits 48 (xH (zP (some []) h)+1)) (za (zc .gtr (I6 (Int.ofNat (xH (some (z5 (zP (some []) h)++[[m,.lst 1 (List.replicate n [U64 0]),U64 0,U64 0]]))))) (I6 0)) fun ca=>ifB ca (za (zx .i64 d) fun cb=>za (zc .rem cb (I6 (Int.ofNat (xH (some (z5 (zP (some []) h)++[[m,.lst 1 (List.replicate n [U64 0]),U64 0,U64 0]])))))) fun cc=>za (zO (some (z5 (zP (some []) h)++[[m,.lst 1 (List.replicate n [U64 0]),U64 0,U64 0]])) cc) fun C=>za (zc .rem c (U8 12)) fun ak=>za (zc .eql ak (U8 6)) fun cd=>ifB cd (za (xY (some (z5 (zP (some []) h)++[[m,.lst 1 (List.replicate n [U64 0]),U64 0,U64 0]])) C) fun ce=>za (zx .i64 f) fun cf=>za (zc .add (atD ce 0) cf) fun cg=>za (zaR 4 (some (z5 (zP (some []) h)++[[m,.lst 1 (List.replicate n [U64 0]),U64 0,U64 0]])) C 0 [cg]) fun al=>za (zV .nils) fun ch=>za (zc .eql ch (I6 0)) fun cj=>ifB cj (some (SA [(mkL 1 (zP (some []) e)),.nils,(mkL 4 al)])) (wy d c f (mkL 1 (zP (some []) e)) (mkL 4 al))) (za (zc .eql ak (U8 7)) fun ck=>ifB ck (za (xY (some (z5 (zP (some []) h)++[[m,.lst 1 (List.replicate n [U64 0]),U64 0,U64 0]])) C) fun cl=>za (zc .rem d (U8 64)) fun cm=>za (zq true (U64 1) cm) fun cn=>za (zc .or (atD cl 2) cn) fun co=>za (zaR 4 (some (z5 (zP (some []) h)++[[m,.lst 1 (List.replicate n [U64 0]),U64 0,U64 0]])) C 2 [co]) fun am=>za (zV .nils) fun cp=>za (zc .eql cp (I6 0)) fun cq=>ifB cq (some (SA [(mkL 1 (zP (some []) e)),.nils,(mkL 4 am)])) (wy d c f (mkL 1 (zP (some []) e)) (mkL 4 am))) (jL (mkL 1 (zP (some []) e)) h m n d c f))) (jL (mkL 1 (zP (some []) e)) h m n d c f))) (za (zc .gtr (I6 (Int.ofNat (xH (zP (some []) h)))) (I6 0)) fun cr=>ifB cr (jc d h c f (mkL 1 (zP (some []) e))) (za (zV .nils) fun cs=>za (zc .eql cs (I6 0)) fun ct=>ifB ct (some (SA [(mkL 1 (zP (some []) e)),.nils,(mkL 4 (zP (some []) h))])) (wy d c f (mkL 1 (zP (some []) e)) (mkL 4 (zP (some []) h)))))))))))) (za (yq 4 a) fun g=>gd (fits 32 (xH (some [])+(g:List (List DV)).length)) (za (zdA b) fun cu=>ifB (.bool cu) (za (zx .i64 d) fun cv=>za (zc .rem cv (I6 (Int.ofNat (xH (zP (some []) e))))) fun S=>za (zc .rem c (U8 12)) fun z=>za (zc .eql z (U8 1)) fun cw=>ifB cw (za (zO (zP (some []) e) S) fun cx=>za (xY (zP (some []) e) cx) fun cy=>za (zx .i64 f) fun cz=>za (zc .add (atD cy 0) cz) fun cA=>za (zO (zP (some []) e) S) fun cB=>za (zaR 1 (zP (some []) e) cB 0 [cA]) fun T=>za (zV .nils) fun cC=>za (zc .gtr cC (I6 0)) fun cE=>ifB cE (jp d c f g (mkL 1 T)) (za (zc .eql (I6 (Int.ofNat (xH (zP (some []) g)))) (I6 0)) fun cF=>ifB cF (some (SA [(mkL 1 T),mkL 4 (zP (some []) g),.nils])) (wt d g c f (mkL 1 T) .nils))) (za (zc .eql z (U8 2)) fun cG=>ifB cG (za (vwB none (some S) (xH (zP (some []) e))) fun v=>za (zV .nils) fun cH=>za (zc .gtr cH (I6 0)) fun cJ=>ifB cJ (jp d c f g (zud 1 v.1 v.2 (mkL 1 (zP (some []) e)))) (za (zc .eql (I6 (Int.ofNat (xH (zP (some []) g)))) (I6 0)) fun cK=>ifB cK (some (SA [(zud 1 v.1 v.2 (mkL 1 (zP (some []) e))),mkL 4 (zP (some []) g),.nils])) (wt d g c f (zud 1 v.1 v.2 (mkL 1 (zP (some []) e))) .nils))) (za (zc .eql z (U8 3)) fun cL=>ifB cL (yP (zS (u1 d) [mkL 4 (zP (some []) g),.nils] [zP (some []) e]) (fun an U V=>bif Nat.beq an 1 then (u5 U d c f (mkL 1 (yf V 0))) else(bif Nat.beq an 0 then (u5 U d c f (mkL 1 (yf V 0))) else(none))) (fun _U _V=>none)) (za (zc .eql z (U8 4)) fun cM=>ifB cM (za (zc .rem d (U8 5)) fun cN=>za (zx .i64 cN) fun cP=>za (zc .add (I6 99998) cP) fun W=>gd (fits 8 (xH (zP (some []) e)+1)) (za (zV .nils) fun cQ=>za (zc .gtr cQ (I6 0)) fun cR=>ifB cR (jp d c f g (.lst 1 (z5 (zP (some []) e)++[[W]]))) (za (zc .eql (I6 (Int.ofNat (xH (zP (some []) g)))) (I6 0)) fun cS=>ifB cS (some (SA [(.lst 1 (z5 (zP (some []) e)++[[W]])),mkL 4 (zP (some []) g),.nils])) (wt d g c f (.lst 1 (z5 (zP (some []) e)++[[W]])) .nils)))) (za (zc .eql z (U8 5)) fun cT=>ifB cT (za (zx .i64 f) fun o=>za (zc .rem d (U8 5)) fun ao=>za (mkN 8 ao ao) fun p=>gd (fits 48 1) (za (zc .gtr (I6 (Int.ofNat (xH (some (z5 none++[[o,.lst 1 (List.replicate p [U64 0]),U64 0,U64 0]]))))) (I6 0)) fun cU=>ifB cU (za (zx .i64 d) fun cV=>za (zc .rem cV (I6 (Int.ofNat (xH (some (z5 none++[[o,.lst 1 (List.replicate p [U64 0]),U64 0,U64 0]])))))) fun cW=>za (zO (some (z5 none++[[o,.lst 1 (List.replicate p [U64 0]),U64 0,U64 0]])) cW) fun E=>za (zc .rem c (U8 12)) fun ap=>za (zc .eql ap (U8 6)) fun cX=>ifB cX (za (xY (some (z5 none++[[o,.lst 1 (List.replicate p [U64 0]),U64 0,U64 0]])) E) fun cY=>za (zx .i64 f) fun cZ=>za (zc .add (atD cY 0) cZ) fun da=>za (zaR 4 (some (z5 none++[[o,.lst 1 (List.replicate p [U64 0]),U64 0,U64 0]])) E 0 [da]) fun aq=>za (zc .eql (I6 (Int.ofNat (xH (zP (some []) g)))) (I6 0)) fun db=>ifB db (some (SA [(mkL 1 (zP (some []) e)),mkL 4 (zP (some []) g),(mkL 4 aq)])) (wt d g c f (mkL 1 (zP (some []) e)) (mkL 4 aq))) (za (zc .eql ap (U8 7)) fun dc=>ifB dc (za (xY (some (z5 none++[[o,.lst 1 (List.replicate p [U64 0]),U64 0,U64 0]])) E) fun dd=>za (zc .rem d (U8 64)) fun de=>za (zq true (U64 1) de) fun df=>za (zc .or (atD dd 2) df) fun dg=>za (zaR 4 (some (z5 none++[[o,.lst 1 (List.replicate p [U64 0]),U64 0,U64 0]])) E 2 [dg]) fun ar=>za (zc .eql (I6 (Int.ofNat (xH (zP (some []) g)))) (I6 0)) fun dh=>ifB dh (some (SA [(mkL 1 (zP (some []) e)),mkL 4 (zP (some []) g),(mkL 4 ar)])) (wt d g c f (mkL 1 (zP (some []) e)) (mkL 4 ar))) (jM g (mkL 1 (zP (some []) e)) o p d c f))) (jM g (mkL 1 (zP (some []) e)) o p d c f))) (za (zV .nils) fun dj=>za (zc .gtr dj (I6 0)) fun dk=>ifB dk (jp d c f g (mkL 1 (zP (some []) e))) (za (zc .eql (I6 (Int.ofNat (xH (zP (some []) g)))) (I6 0)) fun dl=>ifB dl (some (SA [(mkL 1 (zP (some []) e)),mkL 4 (zP (some []) g),.nils])) (wt d g c f (mkL 1 (zP (some []) e)) .nils)))))))) (za (yq 4 b) fun j=>gd (fits 48 (xH (some [])+(j:List (List DV)).length)) (za (zx .i64 d) fun dm=>za (zc .rem dm (I6 (Int.ofNat (xH (zP (some []) e))))) fun X=>za (zc .rem c (U8 12)) fun A=>za (zc .eql A (U8 1)) fun dn=>ifB dn (za (zO (zP (some []) e) X) fun dp=>za (xY (zP (some []) e) dp) fun dq=>za (zx .i64 f) fun dr=>za (zc .add (atD dq 0) dr) fun ds=>za (zO (zP (some []) e) X) fun dt=>za (zaR 1 (zP (some []) e) dt 0 [ds]) fun Y=>za (zc .gtr (I6 (Int.ofNat (xH (zP (some []) j)))) (I6 0)) fun du=>ifB du (jd d j c f g (mkL 1 Y)) (za (zc .eql (I6 (Int.ofNat (xH (zP (some []) g)))) (I6 0)) fun dv=>ifB dv (some (SA [(mkL 1 Y),mkL 4 (zP (some []) g),(mkL 4 (zP (some []) j))])) (wt d g c f (mkL 1 Y) (mkL 4 (zP (some []) j))))) (za (zc .eql A (U8 2)) fun dw=>ifB dw (za (vwB none (some X) (xH (zP (some []) e))) fun w=>za (zc .gtr (I6 (Int.ofNat (xH (zP (some []) j)))) (I6 0)) fun dx=>ifB dx (jd d j c f g (zud 1 w.1 w.2 (mkL 1 (zP (some []) e)))) (za (zc .eql (I6 (Int.ofNat (xH (zP (some []) g)))) (I6 0)) fun dy=>ifB dy (some (SA [(zud 1 w.1 w.2 (mkL 1 (zP (some []) e))),mkL 4 (zP (some []) g),(mkL 4 (zP (some []) j))])) (wt d g c f (zud 1 w.1 w.2 (mkL 1 (zP (some []) e))) (mkL 4 (zP (some []) j))))) (za (zc .eql A (U8 3)) fun dz=>ifB dz (yP (zS (u1 d) [mkL 4 (zP (some []) g),mkL 4 (zP (some []) j)] [zP (some []) e]) (fun au Z aa=>bif Nat.beq au 1 then (u5 Z d c f (mkL 1 (yf aa 0))) else(bif Nat.beq au 0 then (u5 Z d c f (mkL 1 (yf aa 0))) else(none))) (fun _Z _aa=>none)) (za (zc .eql A (U8 4)) fun dA=>ifB dA (za (zc .rem d (U8 5)) fun dB=>za (zx .i64 dB) fun dC=>za (zc .add (I6 99998) dC) fun ab=>gd (fits 8 (xH (zP (some []) e)+1)) (za (zc .gtr (I6 (Int.ofNat (xH (zP (some []) j)))) (I6 0)) fun dE=>ifB dE (jd d j c f g (.lst 1 (z5 (zP (some []) e)++[[ab]]))) (za (zc .eql (I6 (Int.ofNat (xH (zP (some []) g)))) (I6 0)) fun dF=>ifB dF (some (SA [(.lst 1 (z5 (zP (some []) e)++[[ab]])),mkL 4 (zP (some []) g),(mkL 4 (zP (some []) j))])) (wt d g c f (.lst 1 (z5 (zP (some []) e)++[[ab]])) (mkL 4 (zP (some []) j)))))) (za (zc .eql A (U8 5)) fun dG=>ifB dG (za (zx .i64 f) fun q=>za (zc .rem d (U8 5)) fun av=>za (mkN 8 av av) fun r=>gd (fits 48 (xH (zP (some []) j)+1)) (za (zc .gtr (I6 (Int.ofNat (xH (some (z5 (zP (some []) j)++[[q,.lst 1 (List.replicate r [U64 0]),U64 0,U64 0]]))))) (I6 0)) fun dH=>ifB dH (za (zx .i64 d) fun dJ=>za (zc .rem dJ (I6 (Int.ofNat (xH (some (z5 (zP (some []) j)++[[q,.lst 1 (List.replicate r [U64 0]),U64 0,U64 0]])))))) fun dK=>za (zO (some (z5 (zP (some []) j)++[[q,.lst 1 (List.replicate r [U64 0]),U64 0,U64 0]])) dK) fun F=>za (zc .rem c (U8 12)) fun aw=>za (zc .eql aw (U8 6)) fun dL=>ifB dL (za (xY (some (z5 (zP (some []) j)++[[q,.lst 1 (List.replicate r [U64 0]),U64 0,U64 0]])) F) fun dM=>za (zx .i64 f) fun dN=>za (zc .add (atD dM 0) dN) fun dP=>za (zaR 4 (some (z5 (zP (some []) j)++[[q,.lst 1 (List.replicate r [U64 0]),U64 0,U64 0]])) F 0 [dP]) fun ax=>za (zc .eql (I6 (Int.ofNat (xH (zP (some []) g)))) (I6 0)) fun dQ=>ifB dQ (some (SA [(mkL 1 (zP (some []) e)),mkL 4 (zP (some []) g),(mkL 4 ax)])) (wt d g c f (mkL 1 (zP (some []) e)) (mkL 4 ax))) (za (zc .eql aw (U8 7)) fun dR=>ifB dR (za (xY (some (z5 (zP (some []) j)++[[q,.lst 1 (List.replicate r [U64 0]),U64 0,U64 0]])) F) fun dS=>za (zc .rem d (U8 64)) fun dT=>za (zq true (U64 1) dT) fun dU=>za (zc .or (atD dS 2) dU) fun dV=>za (zaR 4 (some (z5 (zP (some []) j)++[[q,.lst 1 (List.replicate r [U64 0]),U64 0,U64 0]])) F 2 [dV]) fun ay=>za (zc .eql (I6 (Int.ofNat (xH (zP (some []) g)))) (I6 0)) fun dW=>ifB dW (some (SA [(mkL 1 (zP (some []) e)),mkL 4 (zP (some []) g),(mkL 4 ay)])) (wt d g c f (mkL 1 (zP (some []) e)) (mkL 4 ay))) (jN g (mkL 1 (zP (some []) e)) j q r d c f))) (jN g (mkL 1 (zP (some []) e)) j q r d c f))) (za (zc .gtr (I6 (Int.ofNat (xH (zP (some []) j)))) (I6 0)) fun dX=>ifB dX (jd d j c f g (mkL 1 (zP (some []) e))) (za (zc .eql (I6 (Int.ofNat (xH (zP (some []) g)))) (I6 0)) fun dY=>ifB dY (some (SA [(mkL 1 (zP (some []) e)),mkL 4 (zP (some []) g),(mkL 4 (zP (some []) j))])) (wt d g c f (mkL 1 (zP (some []) e)) (mkL 4 (zP (some []) j))))))))))))))
theorem p21(O:Orc)(b0:List (List DV))(a b c d f:DV):pF O qj 21 [SA [.lst 1 b0,a,b],SA [c,d,f]]=P21 O b0 a b c d f:=by kernel_rfl
def an6:Nat->Option LA:=fun i=>match i with|0=>some ⟨[.slot 7],[],[],[],[],[],[.slot 6],[],[]⟩|1=>some ⟨[.slot 10,.slot 9],[],[],[],[.slot 9],[],[],[],[]⟩|2=>some ⟨[.slot 126,.slot 9],[],[],[],[.slot 9],[],[],[],[]⟩|_=>none
def u6(a b c d:DV)(e:List DV)(_q:List OC):Option PX:=za (zc .lss (zf e 0) (I6 (Int.ofNat (xH (some [[a],[b],[c],[d]]))))) fun g=>ifB g (za (zO (some [[a],[b],[c],[d]]) (zf e 0)) fun h=>za (xY (some [[a],[b],[c],[d]]) h) fun f=>za (zc .eql (zf e 1) (I6 0)) fun j=>ifB j (za (zc .lss (atD f 0) (I6 0)) fun k=>ifB k (za (zc .add (zf e 0) (I6 1)) fun l=>some (.normal,[l,I6 3],[])) (za (zc .gtr (atD f 0) (I6 1000)) fun m=>ifB m (za (zc .add (zf e 0) (I6 1)) fun n=>some (.normal,[n,I6 3],[])) (za (zc .add (zf e 0) (I6 1)) fun o=>some (.normal,[o,zf e 1],[])))) (za (zc .add (zf e 0) (I6 1)) fun p=>some (.normal,[p,zf e 1],[]))) (some (.exit 4,[zf e 1],[]))
def je(O:Orc)(a:DV)(c:List DV)(b:List DV)(_k:List OC):Option PX:=za (zV a) fun e=>za (zc .lss (zf b 0) e) fun f=>ifB f (za (zc .eql (zf b 1) (I6 0)) fun g=>ifB g (za (yb 3 a (zf b 0)) fun d=>b1 (O 24 [SA [atD c 0,atD c 1,atD c 2,atD c 3],SA [atD d 0,atD d 1,atD d 2]]) fun h=>za (zc .add (zf b 0) (I6 1)) fun j=>some (.normal,[j,h],[])) (some (.exit 2,[zf b 1],[]))) (some (.exit 2,[zf b 1],[]))
def jF(a:DV)(b:List DV)(_j:List OC):Option PX:=za (zV a) fun c=>za (zc .lss (zf b 0) c) fun d=>ifB d (za (yb 3 a (zf b 0)) fun e=>za (zV (atD e 0)) fun f=>za (zc .gtr f (I6 10)) fun g=>ifB g (some (.ret,[.bool true],[])) (za (zc .add (zf b 0) (I6 1)) fun h=>some (.normal,[h],[]))) (some (.exit 0,[],[]))
def jg(O:Orc)(e:List DV)(g:List DV)(a:DV)(b:DV)(c:DV)(d:DV)(f:DV)(h:DV)(j:DV)(m:DV)(r:DV)(s:DV)(l:List DV)(k:List DV):Option DA:=b1 (O 25 [SA [atD e 0,atD e 1,atD e 2,atD e 3,atD g 0,atD g 1,atD g 2,a,b,c,d,f,h,j,m,r,s]]) fun w=>za (zc .neq w (zf l 0)) fun x=>ifB x (some (S1 (.bool false))) (za (zc .eql (zf l 0) (I6 0)) fun y=>ifB y (za (mkN 40 (I6 41) (I6 41)) fun z=>b1s (O 25 [SA [atD k 0,atD k 1,atD k 2,atD k 3,atD k 4,atD k 5,atD k 6,atD k 7,atD k 8,atD k 9,atD k 10,.lst 3 (List.replicate z [.nils,U64 0,U64 0]),atD k 12,atD k 13,atD k 14,atD k 15,atD k 16]]) fun A=>za (zc .eql A (I6 4)) fun B=>some (S1 B)) (bT [none,none,none] (O 10 [SA [atD e 0,atD e 1,atD e 2,atD e 3,atD g 0,atD g 1,atD g 2,a,b,c,d,f,h,j,m,r,s],S1 (I6 0)]) fun n=>bT [some 3,none] (O 15 [SA [atD e 0,atD e 1,atD e 2,atD e 3,atD g 0,atD g 1,atD g 2,a,b,c,d,f,h,j,m,r,s],SA [.nils,U64 0,U64 0],SA [I6 0,I6 0,I6 0,I6 0,I6 0]]) fun o=>bT [some 3,none] (O 18 [SA [atD e 0,atD e 1,atD e 2,atD e 3,atD g 0,atD g 1,atD g 2,a,b,c,d,f,h,j,m,r,s],.s (.one .nils),S1 (I6 0)]) fun p=>bT [none,none] (O 26 [SA [atD e 0,atD e 1,atD e 2,atD e 3,atD g 0,atD g 1,atD g 2,a,b,c,d,f,h,j,m,r,s],.s (.one .nils)]) fun q=>bT [none,none,none] (O 27 [SA [atD e 0,atD e 1,atD e 2,atD e 3,atD g 0,atD g 1,atD g 2,a,b,c,d,f,h,j,m,r,s],.s (.one .nils)]) fun t=>bT [some 2,none] (O 28 [SA [atD e 0,atD e 1,atD e 2,atD e 3,atD g 0,atD g 1,atD g 2,a,b,c,d,f,h,j,m,r,s],.s (.one .nils)]) fun v=>za (zbG (dsO (yR n 0))) fun C=>ifB C (za (zbG (dsO (yR n 1))) fun E=>ifB E (za (zbG (dsO (yR q 0))) fun F=>ifB F (za (zbG (dsO (yR t 1))) fun G=>ifB G (za (zV (atD (dsA (yR o 0)) 0)) fun H=>za (zV (atD (dsA (yR p 0)) 0)) fun J=>za (zc .add H J) fun K=>za (zV (atD (dsA (yR v 0)) 0)) fun L=>za (zc .add K L) fun M=>za (zc .eql M (I6 0)) fun N=>ifB N (za (zc .eql (dsO (yR n 2)) (zf l 0)) fun P=>ifB P (za (zc .eql (dsO (yR o 1)) (zf l 0)) fun Q=>ifB Q (za (zc .eql (dsO (yR p 1)) (zf l 0)) fun R=>ifB R (za (zc .eql (dsO (yR q 1)) (zf l 0)) fun S=>ifB S (za (zc .eql (dsO (yR t 2)) (zf l 0)) fun T=>ifB T (za (zc .eql (dsO (yR v 1)) (zf l 0)) fun U=>ifB U (b1 (O 29 [SA [atD e 0,atD e 1,atD e 2,atD e 3,atD g 0,atD g 1,atD g 2,a,b,c,d,f,h,j,m,r,s],.s (.one .nils),SA [.nils,I6 0]]) fun V=>za (zc .eql V (zf l 0)) fun W=>some (S1 W)) (some (S1 (.bool false)))) (some (S1 (.bool false)))) (some (S1 (.bool false)))) (some (S1 (.bool false)))) (some (S1 (.bool false)))) (some (S1 (.bool false)))) (some (S1 (.bool false)))) (some (S1 (.bool false)))) (some (S1 (.bool false)))) (some (S1 (.bool false)))) (some (S1 (.bool false)))))
def P6(O:Orc)(a b c d f h j m r s w y z aa ab ac ad ae af _ag _ah _aj _ak _am _an _ap aq ar au av aw ax ay az ba bb:DV):Option DA:=b1 (O 7 []) fun F=>za (zbG F) fun G=>ifB G (b1 (O 7 []) fun H=>some (S1 H)) (b1 (O 8 [SA [a,b,c,d,f,h,j,m,r,s,w,y,z,aa]]) fun J=>za (zbG J) fun K=>ifB K (b1 (O 7 []) fun L=>some (S1 L)) (za (zV aw) fun M=>za (zc .gtr M (I6 3)) fun N=>ifB N (b1 (O 7 []) fun P=>some (S1 P)) (yP (zS (jF aw) [I6 0] []) (fun Q _o _R=>bif Nat.beq Q 0 then (bA 17 (O 9 [SA [a,b,c,d,f,h,j,m,r,s,w,y,z,aa]]) fun e=>bA 4 (O 20 [SA [atD e 0,atD e 1,atD e 2,atD e 3],SA [ab,ac]]) fun g=>bA 3 (O 21 [SA [atD e 4,atD e 5,atD e 6],SA [ad,ae,af]]) fun k=>b1 (O 22 [SA [atD g 0,atD g 1,atD g 2,atD g 3],SA [atD k 0,atD k 1,atD k 2]]) fun p=>za (zc .eql p (I6 0)) fun S=>ifB S (b1 (O 23 [SA [aq,ar,au,av]]) fun T=>yP (zS (je O aw g) [I6 0,T] []) (fun U l _V=>bif Nat.beq U 2 then (za (zc .eql (zf l 0) (I6 0)) fun W=>ifB W (za (zc .lss ax (I6 0)) fun X=>ifB X (yP (zS (u6 ay az ba bb) [I6 0,I6 3] []) (fun Y q _Z=>bif Nat.beq Y 4 then (jg O g k aq ar au av aw ax ay az ba bb q e) else(none)) (fun _q _Z=>none)) (za (zc .gtr ax (I6 20)) fun ag=>ifB ag (yP (zS (u6 ay az ba bb) [I6 0,I6 3] []) (fun ah t _aj=>bif Nat.beq ah 4 then (jg O g k aq ar au av aw ax ay az ba bb t e) else(none)) (fun _t _aj=>none)) (yP (zS (u6 ay az ba bb) [I6 0,zf l 0] []) (fun ak v _al=>bif Nat.beq ak 4 then (jg O g k aq ar au av aw ax ay az ba bb v e) else(none)) (fun _v _al=>none)))) (yP (zS (u6 ay az ba bb) [I6 0,zf l 0] []) (fun am x _an=>bif Nat.beq am 4 then (jg O g k aq ar au av aw ax ay az ba bb x e) else(none)) (fun _x _an=>none))) else(none)) (fun _l _V=>none)) (yP (zS (je O aw g) [I6 0,p] []) (fun ao n _ap=>bif Nat.beq ao 2 then (za (zc .eql (zf n 0) (I6 0)) fun aA=>ifB aA (za (zc .lss ax (I6 0)) fun aB=>ifB aB (yP (zS (u6 ay az ba bb) [I6 0,I6 3] []) (fun aC A _aE=>bif Nat.beq aC 4 then (jg O g k aq ar au av aw ax ay az ba bb A e) else(none)) (fun _A _aE=>none)) (za (zc .gtr ax (I6 20)) fun aF=>ifB aF (yP (zS (u6 ay az ba bb) [I6 0,I6 3] []) (fun aG B _aH=>bif Nat.beq aG 4 then (jg O g k aq ar au av aw ax ay az ba bb B e) else(none)) (fun _B _aH=>none)) (yP (zS (u6 ay az ba bb) [I6 0,zf n 0] []) (fun aJ C _aK=>bif Nat.beq aJ 4 then (jg O g k aq ar au av aw ax ay az ba bb C e) else(none)) (fun _C _aK=>none)))) (yP (zS (u6 ay az ba bb) [I6 0,zf n 0] []) (fun aL E _aM=>bif Nat.beq aL 4 then (jg O g k aq ar au av aw ax ay az ba bb E e) else(none)) (fun _E _aM=>none))) else(none)) (fun _n _ap=>none))) else(none)) (fun o _R=>some (S1 (zf o 0))))))
theorem p6(O:Orc)(a b c d f h j m r s w y z aa ab ac ad ae af ag ah aj ak am an ap aq ar au av aw ax ay az ba bb:DV):pF O an6 6 [SA [a,b,c,d,f,h,j,m,r,s,w,y,z,aa],SA [ab,ac,ad,ae,af],SA [ag,ah,aj,ak,am,an,ap,aq,ar,au,av,aw,ax,ay,az,ba,bb]]=P6 O a b c d f h j m r s w y z aa ab ac ad ae af ag ah aj ak am an ap aq ar au av aw ax ay az ba bb:=by kernel_rfl
def qk:Nat->Option LA:=fun i=>match i with|0=>some ⟨[.cell 0 0],[(.cell 0 1,6),(.cell 0 2,5),(.cell 0 3,5)],[(0,4)],[],[.cell 0 0],[(.cell 0 1,6),(.cell 0 2,5),(.cell 0 3,5)],[.cell 0 0],[(.cell 0 1,6),(.cell 0 2,5),(.cell 0 3,5)],[]⟩|1=>some ⟨[.cell 0 0],[(.cell 0 1,6),(.cell 0 2,5),(.cell 0 3,5)],[(0,4)],[],[.cell 0 0],[(.cell 0 1,6),(.cell 0 2,5),(.cell 0 3,5)],[.cell 0 0],[(.cell 0 1,6),(.cell 0 2,5),(.cell 0 3,5)],[]⟩|2=>some ⟨[.cell 9 0,.cell 9 1,.cell 9 2,.cell 9 3],[(.cell 9 4,4)],[(9,5)],[],[.cell 9 0,.cell 9 1,.cell 9 2,.cell 9 3],[(.cell 9 4,4)],[.cell 9 0,.cell 9 1,.cell 9 2,.cell 9 3],[(.cell 9 4,4)],[]⟩|_=>none
def jf(a:DV)(b:List DV)(c:List OC):Option PX:=za (zc .rem a (U8 2)) fun e=>za (zx .i64 e) fun f=>za (zc .add (I6 60) f) fun g=>za (zc .lss (I6 (Int.ofNat (xH (yf c 0)))) g) fun h=>ifB h (za (zO (yf c 0) (I6 0)) fun j=>za (xY (yf c 0) j) fun d=>za (zc .quo (I6 (Int.ofNat (xH (yf c 0)))) (I6 10)) fun k=>za (zc .add (I6 48) k) fun l=>za (zx .u8 l) fun m=>za (zc .rem (I6 (Int.ofNat (xH (yf c 0)))) (I6 10)) fun n=>za (zc .add (I6 48) n) fun o=>za (zx .u8 o) fun p=>za (zra (.lst 1 [[m],[p]])) fun q=>za (zq3 .add (.str ⟨#[89]⟩) q) fun r=>gd (fits 56 (xH (yf c 0)+1)) (some (.normal,[zf b 0,zf b 1,zf b 2,zf b 3],[some (z5 (yf c 0)++[[r,atD d 1,atD d 2,atD d 3]])]))) (some (.exit 5,[zf b 0,zf b 1,zf b 2,zf b 3],[yf c 0]))
def jr(a:DV)(c:List DV)(b:List OC):Option PX:=za (zc .rem a (U8 2)) fun d=>za (zx .i64 d) fun e=>za (zc .add (I6 8) e) fun f=>za (zc .lss (I6 (Int.ofNat (xH (yf b 1)))) f) fun g=>ifB g (za (zc .add (I6 48) (I6 (Int.ofNat (xH (yf b 1))))) fun h=>za (zx .u8 h) fun j=>za (zra (.lst 1 [[j]])) fun k=>za (zq3 .add (.str ⟨#[69]⟩) k) fun l=>gd (fits 64 (xH (yf b 1)+1)) (some (.normal,[zf c 0],[yf b 0,some (z5 (yf b 1)++[[l,.bool false,I6 0,I6 0,.nils]]),yf b 2]))) (some (.exit 3,[zf c 0],[yf b 0,yf b 1,yf b 2]))
def js(a:DV)(d:List DV)(b:List OC):Option PX:=za (zc .rem a (U8 2)) fun e=>za (zx .i64 e) fun f=>za (zc .add (I6 60) f) fun g=>za (zc .lss (I6 (Int.ofNat (xH (yf b 0)))) g) fun h=>ifB h (za (zO (yf b 0) (I6 0)) fun j=>za (xY (yf b 0) j) fun c=>za (zc .quo (I6 (Int.ofNat (xH (yf b 0)))) (I6 10)) fun k=>za (zc .add (I6 48) k) fun l=>za (zx .u8 l) fun m=>za (zc .rem (I6 (Int.ofNat (xH (yf b 0)))) (I6 10)) fun n=>za (zc .add (I6 48) n) fun o=>za (zx .u8 o) fun p=>za (zra (.lst 1 [[m],[p]])) fun q=>za (zq3 .add (.str ⟨#[88]⟩) q) fun r=>gd (fits 80 (xH (yf b 0)+1)) (some (.normal,[zf d 0],[some (z5 (yf b 0)++[[r,atD c 1,atD c 2,atD c 3,atD c 4,atD c 5]]),yf b 1,yf b 2]))) (some (.exit 1,[zf d 0],[yf b 0,yf b 1,yf b 2]))
def P20(_O:Orc)(a b c d f h:DV):Option DA:=za (yq 6 b) fun k=>gd (fits 80 (xH (some [])+(k:List (List DV)).length)) (za (yq 5 c) fun g=>gd (fits 64 (xH (some [])+(g:List (List DV)).length)) (za (yq 5 d) fun l=>gd (fits 48 (xH (some [])+(l:List (List DV)).length)) (za (zx .i64 h) fun J=>za (zc .rem J (I6 (Int.ofNat (xH (zP (some []) k))))) fun v=>za (zx .i64 h) fun K=>za (zc .rem K (I6 (Int.ofNat (xH (zP (some []) g))))) fun j=>za (zO (zP (some []) g) j) fun L=>za (xY (zP (some []) g) L) fun e=>za (yq 4 (atD e 4)) fun m=>gd (fits 56 (xH (some [])+(m:List (List DV)).length)) (za (zc .rem f (U8 16)) fun p=>za (zc .eql p (U8 1)) fun M=>ifB M (za (zc .rem h (U8 4)) fun N=>za (zO (some [[.str ⟨#[]⟩],[.str ⟨#[55]⟩],[.str ⟨#[97,32,98]⟩],[.str ⟨#[70,105,110,101]⟩]]) N) fun P=>za (xY (some [[.str ⟨#[]⟩],[.str ⟨#[55]⟩],[.str ⟨#[97,32,98]⟩],[.str ⟨#[70,105,110,101]⟩]]) P) fun y=>za (zc .lss j (I6 (Int.ofNat (xH (zP (some []) g))))) fun Q=>ifB Q (za (zO (zP (some []) g) j) fun R=>za (zaR 5 (zP (some []) g) R 0 [atD e 0,atD e 1,atD e 2,atD e 3,mkL 4 (zP (some []) m)]) fun S=>some (SA [atD y 0,mkL 6 (zP (some []) k),mkL 5 S,mkL 5 (zP (some []) l)])) (some (SA [atD y 0,mkL 6 (zP (some []) k),mkL 5 (zP (some []) g),mkL 5 (zP (some []) l)]))) (za (zc .eql p (U8 2)) fun T=>ifB T (za (zO (zP (some []) k) v) fun U=>za (zaR 6 (zP (some []) k) U 5 [.nils]) fun z=>za (zc .lss j (I6 (Int.ofNat (xH (zP (some []) g))))) fun V=>ifB V (za (zO (zP (some []) g) j) fun W=>za (zaR 5 (zP (some []) g) W 0 [atD e 0,atD e 1,atD e 2,atD e 3,mkL 4 (zP (some []) m)]) fun X=>some (SA [a,mkL 6 z,mkL 5 X,mkL 5 (zP (some []) l)])) (some (SA [a,mkL 6 z,mkL 5 (zP (some []) g),mkL 5 (zP (some []) l)]))) (za (zc .eql p (U8 3)) fun Y=>ifB Y (za (zc .rem h (U8 3)) fun Z=>za (zO (some [[.str ⟨#[]⟩],[.str ⟨#[82,48]⟩],[.str ⟨#[82,57]⟩]]) Z) fun aa=>za (xY (some [[.str ⟨#[]⟩],[.str ⟨#[82,48]⟩],[.str ⟨#[82,57]⟩]]) aa) fun ab=>za (zO (zP (some []) k) v) fun ac=>za (zaR 6 (zP (some []) k) ac 0 [atD ab 0]) fun A=>za (zc .lss j (I6 (Int.ofNat (xH (zP (some []) g))))) fun ad=>ifB ad (za (zO (zP (some []) g) j) fun ae=>za (zaR 5 (zP (some []) g) ae 0 [atD e 0,atD e 1,atD e 2,atD e 3,mkL 4 (zP (some []) m)]) fun af=>some (SA [a,mkL 6 A,mkL 5 af,mkL 5 (zP (some []) l)])) (some (SA [a,mkL 6 A,mkL 5 (zP (some []) g),mkL 5 (zP (some []) l)]))) (za (zc .eql p (U8 4)) fun ag=>ifB ag (yP (zS (js h) [a] [zP (some []) k,zP (some []) g,zP (some []) l]) (fun B r n=>bif Nat.beq B 1 then (za (zc .lss j (I6 (Int.ofNat (xH (yf n 1))))) fun ah=>ifB ah (za (zO (yf n 1) j) fun aj=>za (zaR 5 (yf n 1) aj 0 [atD e 0,atD e 1,atD e 2,atD e 3,mkL 4 (zP (some []) m)]) fun ak=>some (SA [zf r 0,mkL 6 (yf n 0),mkL 5 ak,mkL 5 (yf n 2)])) (some (SA [zf r 0,mkL 6 (yf n 0),mkL 5 (yf n 1),mkL 5 (yf n 2)]))) else(bif Nat.beq B 0 then (za (zc .lss j (I6 (Int.ofNat (xH (yf n 1))))) fun al=>ifB al (za (zO (yf n 1) j) fun am=>za (zaR 5 (yf n 1) am 0 [atD e 0,atD e 1,atD e 2,atD e 3,mkL 4 (zP (some []) m)]) fun an=>some (SA [zf r 0,mkL 6 (yf n 0),mkL 5 an,mkL 5 (yf n 2)])) (some (SA [zf r 0,mkL 6 (yf n 0),mkL 5 (yf n 1),mkL 5 (yf n 2)]))) else(none))) (fun _r _n=>none)) (za (zc .eql p (U8 5)) fun ao=>ifB ao (za (zV .nils) fun ap=>za (zc .lss j ap) fun aq=>ifB aq (za (yb 5 .nils j) fun _bM=>none) (some (SA [a,mkL 6 (zP (some []) k),.nils,mkL 5 (zP (some []) l)]))) (za (zc .eql p (U8 6)) fun ar=>ifB ar (yP (zS (jr h) [a] [zP (some []) k,zP (some []) g,zP (some []) l]) (fun C s o=>bif Nat.beq C 3 then (za (zc .lss j (I6 (Int.ofNat (xH (yf o 1))))) fun au=>ifB au (za (zO (yf o 1) j) fun av=>za (zaR 5 (yf o 1) av 0 [atD e 0,atD e 1,atD e 2,atD e 3,mkL 4 (zP (some []) m)]) fun aw=>some (SA [zf s 0,mkL 6 (yf o 0),mkL 5 aw,mkL 5 (yf o 2)])) (some (SA [zf s 0,mkL 6 (yf o 0),mkL 5 (yf o 1),mkL 5 (yf o 2)]))) else(bif Nat.beq C 0 then (za (zc .lss j (I6 (Int.ofNat (xH (yf o 1))))) fun ax=>ifB ax (za (zO (yf o 1) j) fun ay=>za (zaR 5 (yf o 1) ay 0 [atD e 0,atD e 1,atD e 2,atD e 3,mkL 4 (zP (some []) m)]) fun aA=>some (SA [zf s 0,mkL 6 (yf o 0),mkL 5 aA,mkL 5 (yf o 2)])) (some (SA [zf s 0,mkL 6 (yf o 0),mkL 5 (yf o 1),mkL 5 (yf o 2)]))) else(none))) (fun _s _o=>none)) (za (zc .eql p (U8 7)) fun aB=>ifB aB (za (zc .rem h (U8 4)) fun aC=>za (zO (some [[.str ⟨#[]⟩],[.str ⟨#[68,48]⟩],[.str ⟨#[68,49]⟩],[.str ⟨#[83,111,108,111]⟩]]) aC) fun aE=>za (xY (some [[.str ⟨#[]⟩],[.str ⟨#[68,48]⟩],[.str ⟨#[68,49]⟩],[.str ⟨#[83,111,108,111]⟩]]) aE) fun aF=>za (zc .lss j (I6 (Int.ofNat (xH (zP (some []) g))))) fun aG=>ifB aG (za (zO (zP (some []) g) j) fun aH=>za (zaR 5 (zP (some []) g) aH 0 [atD aF 0,atD e 1,atD e 2,atD e 3,mkL 4 (zP (some []) m)]) fun aJ=>some (SA [a,mkL 6 (zP (some []) k),mkL 5 aJ,mkL 5 (zP (some []) l)])) (some (SA [a,mkL 6 (zP (some []) k),mkL 5 (zP (some []) g),mkL 5 (zP (some []) l)]))) (za (zc .eql p (U8 8)) fun aK=>ifB aK (za (zc .rem h (U8 4)) fun aL=>za (zO (some [[I6 (-1),I6 40],[I6 50,I6 40],[I6 0,I6 128],[I6 0,I6 127]]) aL) fun aM=>za (xY (some [[I6 (-1),I6 40],[I6 50,I6 40],[I6 0,I6 128],[I6 0,I6 127]]) aM) fun E=>za (zc .lss j (I6 (Int.ofNat (xH (zP (some []) g))))) fun aN=>ifB aN (za (zO (zP (some []) g) j) fun aP=>za (zaR 5 (zP (some []) g) aP 0 [atD e 0,atD e 1,atD E 0,atD E 1,mkL 4 (zP (some []) m)]) fun aQ=>some (SA [a,mkL 6 (zP (some []) k),mkL 5 aQ,mkL 5 (zP (some []) l)])) (some (SA [a,mkL 6 (zP (some []) k),mkL 5 (zP (some []) g),mkL 5 (zP (some []) l)]))) (za (zc .eql p (U8 9)) fun aR=>ifB aR (za (zc .gtr (I6 (Int.ofNat (xH (zP (some []) m)))) (I6 0)) fun aS=>ifB aS (za (zO (zP (some []) m) (I6 0)) fun aT=>za (xY (zP (some []) m) aT) fun w=>za (zc .rem h (U8 4)) fun aU=>za (zO (some [[.str ⟨#[]⟩],[.str ⟨#[83,49]⟩],[.str ⟨#[84]⟩],[.str ⟨#[83,50]⟩]]) aU) fun aV=>za (xY (some [[.str ⟨#[]⟩],[.str ⟨#[83,49]⟩],[.str ⟨#[84]⟩],[.str ⟨#[83,50]⟩]]) aV) fun aW=>za (zO (zP (some []) m) (I6 0)) fun aX=>za (zaR 4 (zP (some []) m) aX 0 [atD aW 0,atD w 1,atD w 2,atD w 3]) fun aY=>za (zc .lss j (I6 (Int.ofNat (xH (zP (some []) g))))) fun aZ=>ifB aZ (za (zO (zP (some []) g) j) fun ba=>za (zaR 5 (zP (some []) g) ba 0 [atD e 0,atD e 1,atD e 2,atD e 3,mkL 4 aY]) fun bb=>some (SA [a,mkL 6 (zP (some []) k),mkL 5 bb,mkL 5 (zP (some []) l)])) (some (SA [a,mkL 6 (zP (some []) k),mkL 5 (zP (some []) g),mkL 5 (zP (some []) l)]))) (za (zc .lss j (I6 (Int.ofNat (xH (zP (some []) g))))) fun bc=>ifB bc (za (zO (zP (some []) g) j) fun bd=>za (zaR 5 (zP (some []) g) bd 0 [atD e 0,atD e 1,atD e 2,atD e 3,mkL 4 (zP (some []) m)]) fun be=>some (SA [a,mkL 6 (zP (some []) k),mkL 5 be,mkL 5 (zP (some []) l)])) (some (SA [a,mkL 6 (zP (some []) k),mkL 5 (zP (some []) g),mkL 5 (zP (some []) l)])))) (za (zc .eql p (U8 10)) fun bf=>ifB bf (za (zc .gtr (I6 (Int.ofNat (xH (zP (some []) m)))) (I6 0)) fun bg=>ifB bg (yP (zS (jf h) [atD e 0,atD e 1,atD e 2,atD e 3] [zP (some []) m]) (fun F q x=>bif Nat.beq F 5 then (za (zc .lss j (I6 (Int.ofNat (xH (zP (some []) g))))) fun bh=>ifB bh (za (zO (zP (some []) g) j) fun bj=>za (zaR 5 (zP (some []) g) bj 0 [zf q 0,zf q 1,zf q 2,zf q 3,mkL 4 (yf x 0)]) fun bk=>some (SA [a,mkL 6 (zP (some []) k),mkL 5 bk,mkL 5 (zP (some []) l)])) (some (SA [a,mkL 6 (zP (some []) k),mkL 5 (zP (some []) g),mkL 5 (zP (some []) l)]))) else(bif Nat.beq F 0 then (za (zc .lss j (I6 (Int.ofNat (xH (zP (some []) g))))) fun bl=>ifB bl (za (zO (zP (some []) g) j) fun bm=>za (zaR 5 (zP (some []) g) bm 0 [zf q 0,zf q 1,zf q 2,zf q 3,mkL 4 (yf x 0)]) fun bn=>some (SA [a,mkL 6 (zP (some []) k),mkL 5 bn,mkL 5 (zP (some []) l)])) (some (SA [a,mkL 6 (zP (some []) k),mkL 5 (zP (some []) g),mkL 5 (zP (some []) l)]))) else(none))) (fun _q _x=>none)) (za (zc .lss j (I6 (Int.ofNat (xH (zP (some []) g))))) fun bo=>ifB bo (za (zO (zP (some []) g) j) fun bp=>za (zaR 5 (zP (some []) g) bp 0 [atD e 0,atD e 1,atD e 2,atD e 3,mkL 4 (zP (some []) m)]) fun bq=>some (SA [a,mkL 6 (zP (some []) k),mkL 5 bq,mkL 5 (zP (some []) l)])) (some (SA [a,mkL 6 (zP (some []) k),mkL 5 (zP (some []) g),mkL 5 (zP (some []) l)])))) (za (zc .eql p (U8 11)) fun br=>ifB br (za (vwB none (some v) (xH (zP (some []) k))) fun t=>za (zc .lss j (I6 (Int.ofNat (xH (zP (some []) g))))) fun bs=>ifB bs (za (zO (zP (some []) g) j) fun bt=>za (zaR 5 (zP (some []) g) bt 0 [atD e 0,atD e 1,atD e 2,atD e 3,mkL 4 (zP (some []) m)]) fun bu=>some (SA [a,zud 6 t.1 t.2 (mkL 6 (zP (some []) k)),mkL 5 bu,mkL 5 (zP (some []) l)])) (some (SA [a,zud 6 t.1 t.2 (mkL 6 (zP (some []) k)),mkL 5 (zP (some []) g),mkL 5 (zP (some []) l)]))) (za (zc .eql p (U8 12)) fun bv=>ifB bv (za (zc .rem h (U8 5)) fun bw=>za (zx .i64 bw) fun G=>gd (fits 48 (xH (zP (some []) l)+1)) (za (zc .lss j (I6 (Int.ofNat (xH (zP (some []) g))))) fun bx=>ifB bx (za (zO (zP (some []) g) j) fun bz=>za (zaR 5 (zP (some []) g) bz 0 [atD e 0,atD e 1,atD e 2,atD e 3,mkL 4 (zP (some []) m)]) fun bA=>some (SA [a,mkL 6 (zP (some []) k),mkL 5 bA,.lst 5 (z5 (zP (some []) l)++[[.str ⟨#[67,57]⟩,G,I6 0,I6 1,.bool false]])])) (some (SA [a,mkL 6 (zP (some []) k),mkL 5 (zP (some []) g),.lst 5 (z5 (zP (some []) l)++[[.str ⟨#[67,57]⟩,G,I6 0,I6 1,.bool false]])])))) (za (zc .eql p (U8 13)) fun bB=>ifB bB (za (zc .rem h (U8 3)) fun bC=>za (zO (some [[.str ⟨#[]⟩],[.str ⟨#[67,48]⟩],[.str ⟨#[68,48]⟩]]) bC) fun bE=>za (xY (some [[.str ⟨#[]⟩],[.str ⟨#[67,48]⟩],[.str ⟨#[68,48]⟩]]) bE) fun H=>gd (fits 48 (xH (zP (some []) l)+1)) (za (zc .lss j (I6 (Int.ofNat (xH (zP (some []) g))))) fun bF=>ifB bF (za (zO (zP (some []) g) j) fun bG=>za (zaR 5 (zP (some []) g) bG 0 [atD e 0,atD e 1,atD e 2,atD e 3,mkL 4 (zP (some []) m)]) fun bH=>some (SA [a,mkL 6 (zP (some []) k),mkL 5 bH,.lst 5 (z5 (zP (some []) l)++[[atD H 0,I6 0,I6 0,I6 1,.bool false]])])) (some (SA [a,mkL 6 (zP (some []) k),mkL 5 (zP (some []) g),.lst 5 (z5 (zP (some []) l)++[[atD H 0,I6 0,I6 0,I6 1,.bool false]])])))) (za (zc .lss j (I6 (Int.ofNat (xH (zP (some []) g))))) fun bJ=>ifB bJ (za (zO (zP (some []) g) j) fun bK=>za (zaR 5 (zP (some []) g) bK 0 [atD e 0,atD e 1,atD e 2,atD e 3,mkL 4 (zP (some []) m)]) fun bL=>some (SA [a,mkL 6 (zP (some []) k),mkL 5 bL,mkL 5 (zP (some []) l)])) (some (SA [a,mkL 6 (zP (some []) k),mkL 5 (zP (some []) g),mkL 5 (zP (some []) l)])))))))))))))))))))
theorem p20(O:Orc)(a b c d f h:DV):pF O qk 20 [SA [a,b,c,d],SA [f,h]]=P20 O a b c d f h:=by kernel_rfl
def P26(O:Orc)(a b c d f h j m r s w y z aa ab ac ad e:DV):Option DA:=b1 (O 25 [SA [a,b,c,d,f,h,j,m,r,s,w,y,z,aa,ab,ac,ad]]) fun g=>za (zc .neq g (I6 0)) fun n=>ifB n (some (.tup [.one (.bool false),.one g])) (b1 (O 47 [SA [a,b,c,d,f,h,j,m,r,s,w,y,z,aa,ab,ac,ad],S1 e]) fun k=>za (zc .neq k (I6 0)) fun o=>ifB o (some (.tup [.one (.bool false),.one k])) (bT [some 2,none,none] (O 48 [SA [a,b,c,d,f,h,j,m,r,s,w,y,z,aa,ab,ac,ad],S1 e]) fun l=>some (.tup [.one (dsO (yR l 1)),.one (dsO (yR l 2))])))
theorem p26(O:Orc)(a b c d f h j m r s w y z aa ab ac ad a1:DV):pF O an0 26 [SA [a,b,c,d,f,h,j,m,r,s,w,y,z,aa,ab,ac,ad],S1 a1]=P26 O a b c d f h j m r s w y z aa ab ac ad a1:=by kernel_rfl
def qh:Nat->Option LA:=fun i=>match i with|0=>some ⟨[.slot 27],[],[],[],[],[],[.slot 4,.slot 5,.slot 6],[],[]⟩|_=>none
def qb(O:Orc)(l k a b c d f h j m r s w y z aa ab ac ad:DV)(e:List DV)(_A:List OC):Option PX:=za (zc .lss (zf e 0) l) fun n=>ifB n (za (yb 1 k (zf e 0)) fun o=>za (zc .add (zf e 0) (I6 1)) fun p=>za (za0 1 k none (some p)) fun q=>bT [some 2,none,none] (O 48 [SA [a,b,c,d,f,h,j,m,r,s,w,y,z,aa,ab,ac,ad],S1 q]) fun g=>za (zc .neq (dsO (yR g 2)) (I6 0)) fun t=>ifB t (some (.ret,[I6 0,.bool false,dsO (yR g 2)],[])) (za (zbG (dsO (yR g 1))) fun v=>ifB v (some (.ret,[atD o 0,.bool true,I6 0],[])) (za (zc .add (zf e 0) (I6 1)) fun x=>some (.normal,[x],[])))) (some (.exit 0,[],[]))
def P27(O:Orc)(a b c d f h j m r s w y z aa ab ac ad g:DV):Option DA:=b1 (O 25 [SA [a,b,c,d,f,h,j,m,r,s,w,y,z,aa,ab,ac,ad]]) fun k=>za (zc .neq k (I6 0)) fun n=>ifB n (some (.tup [.one (I6 0),.one (.bool false),.one k])) (b1 (O 47 [SA [a,b,c,d,f,h,j,m,r,s,w,y,z,aa,ab,ac,ad],S1 g]) fun l=>za (zc .neq l (I6 0)) fun o=>ifB o (some (.tup [.one (I6 0),.one (.bool false),.one l])) (za (zV g) fun p=>yP (zS (qb O p g a b c d f h j m r s w y z aa ab ac ad) [I6 0] []) (fun q _e _t=>bif Nat.beq q 0 then (some (.tup [.one (I6 0),.one (.bool false),.one (I6 0)])) else(none)) (fun e _t=>some (.tup [.one (zf e 0),.one (zf e 1),.one (zf e 2)]))))
theorem p27(O:Orc)(a b c d f h j m r s w y z aa ab ac ad a1:DV):pF O qh 27 [SA [a,b,c,d,f,h,j,m,r,s,w,y,z,aa,ab,ac,ad],S1 a1]=P27 O a b c d f h j m r s w y z aa ab ac ad a1:=by kernel_rfl
def P28(O:Orc)(a b c d f h j m r s w y z aa ab ac ad g:DV):Option DA:=b1 (O 25 [SA [a,b,c,d,f,h,j,m,r,s,w,y,z,aa,ab,ac,ad]]) fun k=>za (zc .neq k (I6 0)) fun n=>ifB n (some (.tup [.agg [.nils,I6 0],.one k])) (b1 (O 47 [SA [a,b,c,d,f,h,j,m,r,s,w,y,z,aa,ab,ac,ad],S1 g]) fun l=>za (zc .neq l (I6 0)) fun o=>ifB o (some (.tup [.agg [.nils,I6 0],.one l])) (bT [some 2,none,none] (O 48 [SA [a,b,c,d,f,h,j,m,r,s,w,y,z,aa,ab,ac,ad],S1 g]) fun e=>za (zc .neq (dsO (yR e 2)) (I6 0)) fun p=>ifB p (some (.tup [.agg [.nils,I6 0],.one (dsO (yR e 2))])) (za (zbG (dsO (yR e 1))) fun q=>ifB q (some (.tup [.agg [.nils,I6 0],.one (I6 18)])) (some (.tup [.agg [atD (dsA (yR e 0)) 0,atD (dsA (yR e 0)) 1],.one (I6 0)])))))
theorem p28(O:Orc)(a b c d f h j m r s w y z aa ab ac ad a1:DV):pF O an0 28 [SA [a,b,c,d,f,h,j,m,r,s,w,y,z,aa,ab,ac,ad],S1 a1]=P28 O a b c d f h j m r s w y z aa ab ac ad a1:=by kernel_rfl
def qg:Nat->Option LA:=fun i=>match i with|0=>some ⟨[.slot 39,.slot 10,.cell 2 0,.cell 3 0,.cell 3 1,.cell 3 2,.cell 3 3],[],[(2,1),(3,4)],[],[.slot 10,.cell 2 0,.cell 3 0,.cell 3 1,.cell 3 2,.cell 3 3],[],[.cell 2 0,.cell 3 0,.cell 3 1,.cell 3 2,.cell 3 3],[],[]⟩|_=>none
def kL:Nat->List PA->Nat->Nat->Option LA:=fun h _ n i=>match h,n,i with|79,9,0=>some ⟨[.slot 9,.cell 4 0,.cell 4 1,.cell 4 2,.cell 5 0,.cell 2 0],[],[(4,3),(5,1),(2,1)],[],[.cell 4 0,.cell 4 1,.cell 4 2,.cell 5 0,.cell 2 0],[],[.st 8 0,.cell 4 0,.cell 4 1,.cell 4 2,.cell 5 0,.cell 2 0],[],[]⟩|79,9,1=>some ⟨[.slot 6,.cell 4 0,.cell 4 1,.cell 4 2,.cell 5 0,.cell 2 0],[],[(4,3),(5,1),(2,1)],[],[.cell 4 0,.cell 4 1,.cell 4 2,.cell 5 0,.cell 2 0],[],[.st 8 0,.cell 4 0,.cell 4 1,.cell 4 2,.cell 5 0,.cell 2 0],[],[]⟩|2029001,10,0=>some ⟨[.cell 4 0,.cell 4 1,.cell 4 2,.cell 5 0],[],[(4,3),(5,1)],[],[.cell 4 0,.cell 4 1,.cell 4 2,.cell 5 0],[],[.cell 4 0,.cell 4 1,.cell 4 2,.cell 5 0],[],[]⟩|_,_,_=>none
def kN(O:Orc)(a:DV)(l:List DV)(b c d f h j m r s w y z aa ab ac ad ae:DV)(e:List DV)(_v:List OC):Option PX:=za (zV a) fun n=>za (zc .lss (zf e 3) n) fun o=>ifB o (za (yb 5 a (zf e 3)) fun p=>za (zc .leq (atD p 0) (zf l 0)) fun q=>ifB q (za (yb 5 a (zf e 3)) fun g=>bA 3 (O 38 [SA [b,c,d,f,h,j,m,r,s,w,y,z,aa,ab,ac,ad,ae],SA [zf e 0,zf e 1,zf e 2],SA [atD g 0,atD g 1,atD g 2,atD g 3,atD g 4]]) fun k=>za (zc .add (zf e 3) (I6 1)) fun t=>some (.normal,[atD k 0,atD k 1,atD k 2,t],[])) (some (.exit 4,[zf e 0,zf e 1,zf e 2,zf e 3],[]))) (some (.exit 4,[zf e 0,zf e 1,zf e 2,zf e 3],[]))
def kP(O:Orc)(k:List DV)(a b c d f h j m r s w y z aa ab ac ad ae:DV)(e:List DV)(_C:List OC):Option PX:=za (zc .lss (zf e 0) (atD k 1)) fun n=>ifB n (ifB (atD k 5) (b1 (O 80 [SA [a,b,c,d,f,h,j,m,r,s,w,y,z,aa,ab,ac,ad],S1 (zf e 0)]) fun o=>ifB o (yP (zS (kN O ae e a b c d f h j m r s w y z aa ab ac ad) [zf e 1,zf e 2,zf e 3,zf e 4] []) (fun l g _p=>bif Nat.beq l 4 then (b1 (O 55 [SA [a,b,c,d,f,h,j,m,r,s,w,y,z,aa,ab,ac,ad],SA [zf g 0,zf g 1,zf g 2],SA [atD k 2,atD k 3,atD k 4]]) fun q=>za (zV q) fun t=>za (zc .gtr t (I6 0)) fun v=>ifB v (some (.ret,[I6 0,zf g 0,zf g 1,zf g 2,zf g 3,I6 14],[])) (za (zc .add (zf e 0) (I6 1)) fun x=>some (.normal,[x,zf g 0,zf g 1,zf g 2,zf g 3,zf e 5],[]))) else(bif Nat.beq l 3 then (za (zc .add (zf e 0) (I6 1)) fun A=>some (.normal,[A,zf g 0,zf g 1,zf g 2,zf g 3,zf e 5],[])) else(none))) (fun _g _p=>none)) (za (zc .add (zf e 0) (I6 1)) fun B=>some (.normal,[B,zf e 1,zf e 2,zf e 3,zf e 4,zf e 5],[]))) (some (.exit 2,[zf e 1,zf e 2,zf e 3,zf e 4,zf e 5],[]))) (some (.exit 2,[zf e 1,zf e 2,zf e 3,zf e 4,zf e 5],[]))
def kQ(O:Orc)(n o a b c d f h j m r s w y z aa ab ac ad ae:DV)(g:List DV)(_x:List OC):Option PX:=za (zc .lss (zf g 0) n) fun p=>ifB p (za (yb 6 o (zf g 0)) fun l=>yP (zS (kP O l a b c d f h j m r s w y z aa ab ac ad ae) [atD l 0,zf g 1,zf g 2,zf g 3,zf g 4,zf g 5] []) (fun k e _q=>bif Nat.beq k 2 then (za (zc .add (zf g 0) (I6 1)) fun t=>some (.normal,[t,zf e 0,zf e 1,zf e 2,zf e 3,zf e 4],[])) else(bif Nat.beq k 1 then (za (zc .add (zf g 0) (I6 1)) fun v=>some (.normal,[v,zf e 0,zf e 1,zf e 2,zf e 3,zf e 4],[])) else(some (.exit k,[zf e 0,zf e 1,zf e 2,zf e 3,zf e 4],[])))) (fun e _q=>some (.ret,[I6 0,zf e 1,zf e 2,zf e 3,zf e 4,zf e 5],[]))) (some (.exit 0,[zf g 1,zf g 2,zf g 3,zf g 4,zf g 5],[]))
def kZ(O:Orc)(C a b c d f h j m r s w y z aa ab ac ad ae:DV)(e:List DV)(_aM:List OC):Option PX:=za (zc .lss (zf e 0) C) fun E=>ifB E (za (yb 5 a (zf e 0)) fun g=>b1 (O 39 [SA [b,c,d,f,h,j,m,r,s,w,y,z,aa,ab,ac,ad,ae],S1 a,S1 (zf e 0)]) fun B=>za (zc .neq B (I6 0)) fun F=>ifB F (some (.ret,[B,zf e 3,zf e 4,zf e 5,zf e 6],[])) (za (zc .neq (atD g 0) (zf e 3)) fun G=>ifB G (bT [none,none] (O 34 [SA [b,c,d,f,h,j,m,r,s,w,y,z,aa,ab,ac,ad,ae],S1 (atD g 0)]) fun t=>za (zc .eql (atD g 1) (I6 1)) fun H=>ifB H (za (zc .add (I6 0) (I6 1)) fun k=>za (zbG (dsO (yR t 0))) fun J=>ifB J (some (.ret,[I6 25,atD g 0,k,I6 0,I6 0],[])) (za (zc .gtr k (I6 1)) fun K=>ifB K (some (.ret,[I6 25,atD g 0,k,I6 0,I6 0],[])) (b1 (O 50 [SA [b,c,d,f,h,j,m,r,s,w,y,z,aa,ab,ac,ad,ae],SA [atD g 0,atD g 1,atD g 2,atD g 3,atD g 4]]) fun L=>za (zc .add (zf e 1) L) fun M=>za (zc .add (zf e 0) (I6 1)) fun N=>some (.normal,[N,M,zf e 2,atD g 0,k,I6 0,I6 0],[])))) (za (zc .eql (atD g 1) (I6 2)) fun P=>ifB P (za (zc .add (I6 0) (I6 1)) fun l=>za (zbG (dsO (yR t 0))) fun Q=>ifB Q (some (.ret,[I6 25,atD g 0,l,I6 0,I6 0],[])) (za (zc .gtr l (I6 1)) fun R=>ifB R (some (.ret,[I6 25,atD g 0,l,I6 0,I6 0],[])) (b1 (O 50 [SA [b,c,d,f,h,j,m,r,s,w,y,z,aa,ab,ac,ad,ae],SA [atD g 0,atD g 1,atD g 2,atD g 3,atD g 4]]) fun S=>za (zc .add (zf e 1) S) fun T=>za (zc .add (zf e 0) (I6 1)) fun U=>some (.normal,[U,T,zf e 2,atD g 0,l,I6 0,I6 0],[])))) (za (zc .eql (atD g 1) (I6 3)) fun V=>ifB V (za (zc .add (I6 0) (I6 1)) fun n=>za (zbG (dsO (yR t 1))) fun W=>ifB W (some (.ret,[I6 25,atD g 0,I6 0,n,I6 0],[])) (za (zc .gtr n (I6 1)) fun X=>ifB X (some (.ret,[I6 25,atD g 0,I6 0,n,I6 0],[])) (b1 (O 50 [SA [b,c,d,f,h,j,m,r,s,w,y,z,aa,ab,ac,ad,ae],SA [atD g 0,atD g 1,atD g 2,atD g 3,atD g 4]]) fun Y=>za (zc .add (zf e 1) Y) fun Z=>za (zc .add (zf e 0) (I6 1)) fun af=>some (.normal,[af,Z,zf e 2,atD g 0,I6 0,n,I6 0],[])))) (za (zc .add (I6 0) (I6 1)) fun v=>za (zc .gtr v aa) fun ag=>ifB ag (some (.ret,[I6 25,atD g 0,I6 0,I6 0,v],[])) (b1 (O 50 [SA [b,c,d,f,h,j,m,r,s,w,y,z,aa,ab,ac,ad,ae],SA [atD g 0,atD g 1,atD g 2,atD g 3,atD g 4]]) fun ah=>za (zc .add (zf e 1) ah) fun aj=>za (zc .add (zf e 0) (I6 1)) fun ak=>some (.normal,[ak,aj,zf e 2,atD g 0,I6 0,I6 0,v],[])))))) (bT [none,none] (O 34 [SA [b,c,d,f,h,j,m,r,s,w,y,z,aa,ab,ac,ad,ae],S1 (atD g 0)]) fun x=>za (zc .eql (atD g 1) (I6 1)) fun al=>ifB al (za (zc .add (zf e 4) (I6 1)) fun o=>za (zbG (dsO (yR x 0))) fun am=>ifB am (some (.ret,[I6 25,zf e 3,o,zf e 5,zf e 6],[])) (za (zc .gtr o (I6 1)) fun an=>ifB an (some (.ret,[I6 25,zf e 3,o,zf e 5,zf e 6],[])) (b1 (O 50 [SA [b,c,d,f,h,j,m,r,s,w,y,z,aa,ab,ac,ad,ae],SA [atD g 0,atD g 1,atD g 2,atD g 3,atD g 4]]) fun ao=>za (zc .add (zf e 1) ao) fun ap=>za (zc .add (zf e 0) (I6 1)) fun aq=>some (.normal,[aq,ap,zf e 2,zf e 3,o,zf e 5,zf e 6],[])))) (za (zc .eql (atD g 1) (I6 2)) fun ar=>ifB ar (za (zc .add (zf e 4) (I6 1)) fun p=>za (zbG (dsO (yR x 0))) fun au=>ifB au (some (.ret,[I6 25,zf e 3,p,zf e 5,zf e 6],[])) (za (zc .gtr p (I6 1)) fun av=>ifB av (some (.ret,[I6 25,zf e 3,p,zf e 5,zf e 6],[])) (b1 (O 50 [SA [b,c,d,f,h,j,m,r,s,w,y,z,aa,ab,ac,ad,ae],SA [atD g 0,atD g 1,atD g 2,atD g 3,atD g 4]]) fun aw=>za (zc .add (zf e 1) aw) fun ax=>za (zc .add (zf e 0) (I6 1)) fun ay=>some (.normal,[ay,ax,zf e 2,zf e 3,p,zf e 5,zf e 6],[])))) (za (zc .eql (atD g 1) (I6 3)) fun aA=>ifB aA (za (zc .add (zf e 5) (I6 1)) fun q=>za (zbG (dsO (yR x 1))) fun aB=>ifB aB (some (.ret,[I6 25,zf e 3,zf e 4,q,zf e 6],[])) (za (zc .gtr q (I6 1)) fun aC=>ifB aC (some (.ret,[I6 25,zf e 3,zf e 4,q,zf e 6],[])) (b1 (O 50 [SA [b,c,d,f,h,j,m,r,s,w,y,z,aa,ab,ac,ad,ae],SA [atD g 0,atD g 1,atD g 2,atD g 3,atD g 4]]) fun aE=>za (zc .add (zf e 1) aE) fun aF=>za (zc .add (zf e 0) (I6 1)) fun aG=>some (.normal,[aG,aF,zf e 2,zf e 3,zf e 4,q,zf e 6],[])))) (za (zc .add (zf e 6) (I6 1)) fun A=>za (zc .gtr A aa) fun aH=>ifB aH (some (.ret,[I6 25,zf e 3,zf e 4,zf e 5,A],[])) (b1 (O 50 [SA [b,c,d,f,h,j,m,r,s,w,y,z,aa,ab,ac,ad,ae],SA [atD g 0,atD g 1,atD g 2,atD g 3,atD g 4]]) fun aJ=>za (zc .add (zf e 1) aJ) fun aK=>za (zc .add (zf e 0) (I6 1)) fun aL=>some (.normal,[aL,aK,zf e 2,zf e 3,zf e 4,zf e 5,A],[])))))))) (some (.exit 0,[zf e 1,zf e 2,zf e 3,zf e 4,zf e 5,zf e 6],[]))
def P29(O:Orc)(a b c d f h j m r s w y z aa ab ac ad n ae af:DV):Option DA:=b1 (O 25 [SA [a,b,c,d,f,h,j,m,r,s,w,y,z,aa,ab,ac,ad]]) fun o=>za (zc .neq o (I6 0)) fun t=>ifB t (some (S1 o)) (b1 (O 47 [SA [a,b,c,d,f,h,j,m,r,s,w,y,z,aa,ab,ac,ad],S1 n]) fun p=>za (zc .neq p (I6 0)) fun v=>ifB v (some (S1 p)) (za (zV ae) fun x=>za (zc .gtr x (I6 5000)) fun A=>ifB A (some (S1 (I6 4))) (za (zV ae) fun B=>yP (zS (kZ O B ae a b c d f h j m r s w y z aa ab ac ad) [I6 0,I6 0,I6 0,I6 (-1),I6 0,I6 0,I6 0] []) (fun C e _E=>bif Nat.beq C 0 then (b1 (O 51 [SA [a,b,c,d,f,h,j,m,r,s,w,y,z,aa,ab,ac,ad],S1 n]) fun g=>bT [none,none] (O 52 [SA [a,b,c,d,f,h,j,m,r,s,w,y,z,aa,ab,ac,ad],S1 g]) fun k=>za (zc .neq (dsO (yR k 1)) (I6 0)) fun F=>ifB F (some (S1 (dsO (yR k 1)))) (ifB (dsO (yR k 0)) (some (S1 (I6 14))) (bA 3 (O 53 [SA [a,b,c,d,f,h,j,m,r,s,w,y,z,aa,ab,ac,ad]]) fun l=>za (zV g) fun G=>yP (zS (kQ O G g a b c d f h j m r s w y z aa ab ac ad ae) [I6 0,atD l 0,atD l 1,atD l 2,I6 0,zf e 1] []) (fun H _q _J=>bif Nat.beq H 0 then (za (zc .neq (zf e 0) af) fun K=>ifB K (some (S1 (I6 20))) (some (S1 (I6 0)))) else(none)) (fun q _J=>some (S1 (zf q 5)))))) else(none)) (fun e _E=>some (S1 (zf e 0))))))
theorem p29(O:Orc)(a b c d f h j m r s w y z aa ab ac ad a1 ae af:DV):zxk prog O zmU (inl prog O zmU kL redI 6) qg 29 [SA [a,b,c,d,f,h,j,m,r,s,w,y,z,aa,ab,ac,ad],S1 a1,SA [ae,af]]=P29 O a b c d f h j m r s w y z aa ab ac ad a1 ae af:=by kernel_rfl
def anT(g:Nat):Nat->Option LA:=match g with
 |8=>an8
 |9=>an9
 |14=>zFN
 |18=>zFL
 |22=>zFK
 |23=>zFJ
 |24=>zFI
 |25=>zFH
 |32=>zFG
 |44=>zFC
 |45=>zFB
 |56=>zFA
 |57=>zFz
 |68=>zFy
 |71=>zFx
 |72=>zFw
 |82=>zFv
 |84=>zFu
 |94=>zFt
 |111=>zB2
 |112=>zB1
 |113=>zB0
 |121=>zBZ
 |122=>zBY
 |124=>zBX
 |139=>zBW
 |21=>qj
 |6=>an6
 |20=>qk
 |27=>qh
 |29=>qg
 |_=>an0
def zCD(g:Nat):Nat->List PA->Nat->Nat->Option LA:=match g with
 |29=>kL
 |_=>zFs
end Go.Proofs.Tryz.Kn
end
section
namespace Go.Proofs.Tryz.Kn
open Go Go.CE Go.PE
theorem zvR{sums:List CE.Sum}:zyY zmU redI (fun n=>zI (zT prog) (cFs (yI prog)) sums redI.s n):=by intro N g g' l l' vs e;cases e
end Go.Proofs.Tryz.Kn
end
noncomputable section
namespace Go.Proofs.Tryz.Kn
open Go Go.CE Go.PE
def tzF:Nat->Nat->Nat
 |0,_=>0
 |n+1,x=>bif Nat.beq (x % 2) 1 then 0 else tzF n (x / 2)+1
abbrev tzN(x:Nat):Nat:=tzF 64 x
theorem zam:∀n x:Nat,0<x->x<2^n->∃m,x=2^tzF n x*(2*m+1)/\tzF n x<n
 |0,x,h1,h2=>by omega
 |n+1,x,h1,h2=>by
  unfold tzF;by_cases h:x % 2=1
  .rw[h];exact⟨x / 2,by simp;omega,by simp⟩
  .have hb:Nat.beq (x % 2) 1=false:=by
    simp_all[Bool.eq_false_iff]
   rw[hb];obtain⟨m,g1,g2⟩:=zam n (x / 2) (by omega) (by omega);refine⟨m,?_,by grind⟩;simp only[Yzd,Nat.pow_succ]
   grind
theorem zxs(m k:Nat):(2*m+1).testBit (k+1)=(2*m).testBit (k+1):=by grind
theorem znH(t m i:Nat):(2^t*(2*m+1)).testBit i=(decide (t<=i)&&(2*m+1).testBit (i-t))/\(2^t*(2*m+1)-1).testBit i=if i<t then true else(2*m).testBit (i-t):=by refine⟨by rw[Nat.testBit_two_pow_mul],?_⟩;have hp:0<2^t:=Nat.two_pow_pos t;rw[show 2^t*(2*m+1)-1=2^t*(2*m)+(2^t-1) by grind];rw[Nat.testBit_two_pow_mul_add _ (by omega)];simp
theorem zlO(t m i:Nat):((2^t*(2*m+1)).testBit i && !(2^t*(2*m+1)-1).testBit i)=decide (i=t):=by
 obtain⟨a,b⟩:=znH t m i;rw[a,b];by_cases h:i<t
 .grind
 .rw[Yza h];by_cases h2:i=t
  .grind
  .obtain⟨k,rfl⟩:∃k,i=t+(k+1):=⟨i-t-1,by omega⟩;simp_all[zxs]
theorem zxA{x:Nat}(h:0<x)(h64:x<2^64):x &&& (2^64-x)=2^tzN x:=by
 obtain⟨m,e,ht⟩:=zam 64 x h h64;refine Nat.eq_of_testBit_eq fun i=>?_;have g:=zlO (tzN x) m i;rw[<-e]at g;rw[Nat.testBit_and,Nat.testBit_two_pow];have g2:(2^64-x).testBit i=(decide (i<64) && !(x-1).testBit i):=by
  have:=Nat.testBit_two_pow_sub_succ (n:=64) (x:=x-1) (by omega) i
  grind
 grind
def tzT(v5:Zb)(h6:Za):Res:=
 bindR (zgC zve v5 (.s (.one (.int .u64 (.ofNat 285870213051353865)))) h6) fun v7 h8=>
 bindR (zgQ ziU v7 (.s (.one (.int .u64 (.ofNat 58)))) h8) fun v9 h10=>
 bindR (ze6 64 1 (.s (.one (.gptr 0 0))) v9 h10) fun v11 h12=>
 bindR (wE none v11 h12) fun v13 h14=>
 bindR (zoA .i64 v13 h14) fun v15 h16=>
 zb4 h16 (zdX (zqI v15) (some []))
theorem zGx(call:zh)(f:Nat)(a0:Zb)(h0:Za):znI Tryz.prog 107 call f [a0] h0 =
 bindR (zgC zCy a0 (.s (.one (.int .u64 (.ofNat 0)))) h0) fun v1 h2=>
 ifK v1
 (zb4 h2 (zdX (zqI (.s (.one (.int .i64 (.ofNat 64))))) (some [])))
 (bindR (zzc a0 h2) fun v3 h4=>
 bindR (zgC zyE a0 v3 h4) fun v5 h6=>tzT v5 h6):=by kernel_rfl
def tzI(t:Nat):Nat:=(2^t*285870213051353865) % 18446744073709551616 / 288230376151711744
def isT(t:Nat):Option Zc->Bool
 |some (.int .u8 (.ofNat n))=>Nat.beq n t
 |_=>false
theorem zBd{t:Nat}:∀{c:Option Zc},isT t c=true->c=some (.int .u8 (t:Int))
 |some (.int .u8 (.ofNat n)),h=>by rw[<-Lz1 h];rfl
theorem zwG:((List.range 64).all fun t=>Nat.ble (tzI t+1) 64&&isT t (zdQ 0 (tzI t)))=true:=by kernel_rfl
theorem zFR(x y:Int)(h:Za):zgC zCy (.s (.one (.int .u64 x))) (.s (.one (.int .u64 y))) h=some (.s (.one (.bool (eqI x y))),h):=(rfl)
theorem zCH(x:Int)(h:Za):zzc (.s (.one (.int .u64 x))) h=some (.s (.one (.int .u64 (xV .u64 (Int.sub 0 x)))),h):=(rfl)
theorem zCJ(x y:Int)(h:Za):zgC zyE (.s (.one (.int .u64 x))) (.s (.one (.int .u64 y))) h=some (.s (.one (.int .u64 (IntKind.wrap .u64 (BitVec.ofInt IntKind.u64.bits x &&& BitVec.ofInt IntKind.u64.bits y).toNat))),h):=(rfl)
theorem zCI(x y:Int)(h:Za):zgC zve (.s (.one (.int .u64 x))) (.s (.one (.int .u64 y))) h=some (.s (.one (.int .u64 (xV .u64 (x*y)))),h):=(rfl)
theorem zCG(x:Int)(h:Za):zgQ ziU (.s (.one (.int .u64 x))) (.s (.one (.int .u64 (.ofNat 58)))) h=some (.s (.one (.int .u64 (Int.fdiv x (2^58)))),h):=(rfl)
theorem zFQ(n:Nat)(h:Za):ze6 64 1 (.s (.one (.gptr 0 0))) (.s (.one (.int .u64 (n:Int)))) h=bif Nat.ble (n+1) 64 then some (.s (.one (.gptr 0 (Nat.add 0 (Nat.mul n 1)))),h) else none:=(rfl)
theorem zFP(n:Nat)(h:Za):wE none (.s (.one (.gptr 0 n))) h=zbY h (zdQ 0 n):=(rfl)
theorem zFS(k:IntKind)(n:Int)(h:Za):zoA .i64 (.s (.one (.int k n))) h=some (.s (.one (.int .i64 (xV .i64 n))),h):=(rfl)
theorem zbz{β:Type}{m:Res}{v:Zb}{h:Za}(e:m=some (v,h))(k:Zb->Za->Option β):bindR m k=k v h:=by rw[e];rfl
theorem zEa{β:Type}(a b:Option β):ifK (.s (.one (.bool false))) a b=b:=(rfl)
theorem zGc(c:Zc)(h:Za):zb4 h (zdX (zqI (.s (.one c))) (some []))=some (.s (.one c),h):=(rfl)
theorem zAh(c:Zc)(h:Za):zbY h (some c)=some (.s (.one c),h):=(rfl)
theorem zCP(t:Nat):xV .u64 (((2^t:Nat):Int)*(.ofNat 285870213051353865))=(((2^t*285870213051353865) % 18446744073709551616:Nat):Int):=by grind[zjs]
theorem zCO(a:Nat):Int.fdiv (a:Int) (2^58)=((a / 288230376151711744:Nat):Int):=by grind
theorem zFU(n:Nat)(h:Za)(hb:Nat.ble (n+1) 64=true):ze6 64 1 (.s (.one (.gptr 0 0))) (.s (.one (.int .u64 (n:Int)))) h=some (.s (.one (.gptr 0 n)),h):=by grind[zFQ]
theorem zwD{a b n t:Nat}(h:Za)(e1:xV .u64 ((a:Int)*(.ofNat 285870213051353865))=(b:Int))(e2:Int.fdiv (b:Int) (2^58)=(n:Int))(hb:Nat.ble (n+1) 64=true)(hg:isT t (zdQ 0 n)=true)(ht:t<64):tzT (.s (.one (.int .u64 (a:Int)))) h=some (.s (.one (.int .i64 (t:Int))),h):=by
 unfold tzT;refine (zbz (v:=.s (.one (.int .u64 (b:Int)))) (h:=h) (by rw[zCI,e1]) _).trans ?_
 grind[zbz,zCG,zFU,zFP,zBd,zAh,zFS,wrap64,zGc]
theorem zFT(h:Za){t:Nat}(ht:t<64):tzT (.s (.one (.int .u64 ((2^t:Nat):Int)))) h=some (.s (.one (.int .i64 (t:Int))),h):=by have ha:=YzJ.1 zwG t (List.mem_range.2 ht);simp only[LzC]at ha;exact zwD h (zCP t) (zCO _) ha.1 ha.2 ht
theorem zDx{x:Nat}(h:0<x)(h64:x<2^64):xV .u64 (Int.sub 0 (x:Int))=((2^64-x:Nat):Int):=by grind[zjs]
theorem zBU{x y:Nat}(hx:x<2^64)(hy:y<2^64):IntKind.wrap .u64 (BitVec.ofInt IntKind.u64.bits (x:Int) &&& BitVec.ofInt IntKind.u64.bits (y:Int)).toNat=((x &&& y:Nat):Int):=by
 have e:(BitVec.ofInt IntKind.u64.bits (x:Int) &&& BitVec.ofInt IntKind.u64.bits (y:Int)).toNat=x &&& y:=by
  show (BitVec.ofInt 64 (x:Int) &&& BitVec.ofInt 64 (y:Int)).toNat=x &&& y
  grind
 rw[e];have:x &&& y<=x:=Nat.and_le_left;rw[<-wO,zjs];omega
theorem zwE{x y z t:Nat}{call:zh}{f:Nat}(h:Za)(e1:eqI (x:Int) (.ofNat 0)=false)(e2:xV .u64 (Int.sub 0 (x:Int))=(y:Int))(e3:IntKind.wrap .u64 (BitVec.ofInt IntKind.u64.bits (x:Int) &&& BitVec.ofInt IntKind.u64.bits (y:Int)).toNat=(z:Int))
  (e4:tzT (.s (.one (.int .u64 (z:Int)))) h=some (.s (.one (.int .i64 (t:Int))),h)):znI Tryz.prog 107 call f [.s (.one (.int .u64 (x:Int)))] h=some (.s (.one (.int .i64 (t:Int))),h):=by
 grind[zGx,zbz,zFR,zEa,zCH,zCJ]
theorem zwF{call:zh}{f:Nat}{h:Za}{x:Nat}(h0:0<x)(h64:x<2^64):znI Tryz.prog 107 call f [.s (.one (.int .u64 (x:Int)))] h=some (.s (.one (.int .i64 (tzN x:Int))),h):=by
 have e1:eqI (x:Int) (.ofNat 0)=false:=by
  rw[uV]
  grind
 have ht:tzN x<64:=by obtain⟨m,e,ht⟩:=zam 64 x h0 h64;exact ht
 have e3:=zBU h64 (y:=2^64-x) (by omega);rw[zxA h0 h64]at e3;exact zwE h e1 (zDx h0 h64) e3 (zFT h ht)
def tzB:List DA->Option DA
 | [.s (.one (.int .u64 (.ofNat x)))]=>bif Nat.ble 1 x&&Nat.ble x 18446744073709551615 then some (S1 (I6 (tzN x:Int))) else none
 |_=>none
theorem zzD{sums:List CE.Sum}{srt:Nat->Option Srt}(hs:sums.all (fun s=>!Nat.beq 107 s.g)=true)(hr:srt 107=none){args:List DA}{res:DA}(e:tzB args=some res):zaP (fun n=>zI (zT Tryz.prog) (cFs (yI Tryz.prog)) sums srt n) 107 args res:=by
 intro fz h vs hw hfz H;have hf:xG 107 vs h sums=none:=by
  clear H
  induction sums<;>simp_all[xG]
 refine Ev.call hr hf ?_;unfold tzB at e;split at e
 .rename_i x;cases hb:(Nat.ble 1 x&&Nat.ble x 18446744073709551615) with
  |false=>grind
  |true=>
   rw[hb]at e;cases e;simp only[LzC,Nat.ble_eq]at hb;cases vs with
   |nil=>trivial
   |cons v vs=>
    obtain⟨H1,H2⟩:=H;cases vs with
    |cons _ _=>trivial
    |nil=>
     obtain⟨w,rfl,H3⟩:=H1.inv;cases w with
     |agg _=>trivial
     |one c=>have H4:Rep fz h c (.int .u64 (.ofNat x)):=H3;cases H4;have hk:∀n,znI Tryz.prog 107 (zI (zT Tryz.prog) (cFs (yI Tryz.prog)) sums srt n) n [.s (.one (.int .u64 (.ofNat x)))] h=some (.s (.one (.int .i64 (tzN x:Int))),h):=fun n=>zwF (by omega) (by omega);simp only[hk];exact Ev.some ⟨hw,.refl h,Rep.int _ _⟩
 .cases e
end Go.Proofs.Tryz.Kn
end
section
namespace Go.PE
open Go Go.CE
structure Zj where
 a:Int
 b:Int
 blk:BN
 n:Nat
def wx(a b:Int):SVal:=.agg [.int .i64 a,.int .i64 b]
def Zj.val(e:Zj):SVal:=.one (.slc e.blk 0 e.n 0 false)
def mEs(L:List Zj):List (SVal×SVal):=L.map fun e=>(wx e.a e.b,e.val)
def Zj.is(a b:Int)(e:Zj):Bool:=a==e.a&&b==e.b
theorem zdT(a b a' b':Int):eqS (.inr [1,1]) (wx a b) (wx a' b')=some (a==a'&&b==b'):=by
 show (match (bif eqK .i64 .i64 then some (eqI a a') else none) with|some true=>(match (bif eqK .i64 .i64 then some (eqI b b') else none) with|some true=>some true|some false=>some false|none=>none)|some false=>some false|none=>none)=_;have:eqK .i64 .i64=true:=rfl;rw[this,Yzb,Yzb,uV,uV]
 grind
theorem zdg(a b:Int):∀L:List Zj,uG (.inr [1,1]) (wx a b) (mEs L)=some ((L.find? (Zj.is a b)).map Zj.val)
 | []=>rfl
 |e::L=>by
  show (match eqS (.inr [1,1]) (wx a b) (wx e.a e.b) with|some true=>some (some e.val)|some false=>uG (.inr [1,1]) (wx a b) (mEs L)|none=>none)=_;rw[zdT,List.find?_cons,zdg a b L]
  grind[Zj.is]
theorem znM(a b:Int):∀(L1:List Zj) (e:Zj) (L2:List Zj) (j:Nat),(∀x∈L1,Zj.is a b x=false)->Zj.is a b e=true->znN (.inr [1,1]) (wx a b) (mEs (L1++e::L2)) j=some (j+L1.length)
 | [],e,L2,j,_,he=>by show (match eqS (.inr [1,1]) (wx a b) (wx e.a e.b) with|some true=>some j|_=>znN (.inr [1,1]) (wx a b) (mEs L2) (Nat.succ j))=_;rw[zdT,show (a==e.a&&b==e.b)=true from he];rfl
 |x::L1,e,L2,j,h,he=>by
  show (match eqS (.inr [1,1]) (wx a b) (wx x.a x.b) with|some true=>some j|_=>znN (.inr [1,1]) (wx a b) (mEs (L1++e::L2)) (Nat.succ j))=_;rw[zdT,show (a==x.a&&b==x.b)=false from h x (Yzf ..)];show znN (.inr [1,1]) (wx a b) (mEs (L1++e::L2)) (Nat.succ j)=_;rw[znM a b L1 e L2 (Nat.succ j) (fun y hy=>h y (Yze _ hy)) he,Yzh]
  grind
theorem zse{a b:Int}{e:Zj}(h:Zj.is a b e=true):a=e.a/\b=e.b:=by simp_all[Zj.is]
theorem zna(a b:Int):∀(L1:List Zj) (e:Zj) (L2:List Zj),(∀x∈L1,Zj.is a b x=false)->Zj.is a b e=true->zcS (.inr [1,1]) (wx a b) e.val (mEs (L1++e::L2))=some (mEs (L1++e::L2))
 | [],e,L2,_,he=>by grind[mEs,zcS,zdT,zse]
 |x::L1,e,L2,h,he=>by show (match eqS (.inr [1,1]) (wx a b) (wx x.a x.b) with|some true=>some ((wx a b,e.val)::mEs (L1++e::L2))|some false=>wv (wx x.a x.b,x.val) (zcS (.inr [1,1]) (wx a b) e.val (mEs (L1++e::L2)))|none=>none)=_;rw[zdT,show (a==x.a&&b==x.b)=false from h x (Yzf ..),zna a b L1 e L2 (fun y hy=>h y (Yze _ hy)) he];rfl
theorem zqv(v k u:SVal)(ys:List (SVal×SVal)):∀xs:List (SVal×SVal),ztU v (xs++(k,u)::ys) xs.length=some (xs++(k,v)::ys)
 | []=>rfl
 |(k',u')::xs=>by show (bif Nat.beq (xs.length+1) 0 then some ((k',v)::(xs++(k,u)::ys)) else wv (k',u') (ztU v (xs++(k,u)::ys) (Nat.sub (xs.length+1) 1)))=_;rw[show Nat.sub (xs.length+1) 1=xs.length from rfl,zqv v k u ys xs];rfl
theorem zlM(L1 L2:List Zj):mEs (L1++L2)=mEs L1++mEs L2:=Yye ..
theorem zxK(L:List Zj):(mEs L).length=L.length:=Yzm ..
theorem zdR{α:Type}(p:α->Bool):∀L:List α,(L.find? p=none/\∀x∈L,p x=false)\/∃L1 e L2,L=L1++e::L2/\(∀x∈L1,p x=false)/\p e=true/\L.find? p=some e
 | []=>Or.inl ⟨rfl,fun _ h=>(by cases h)⟩
 |x::L=>by
  cases hp:p x with
  |true=>exact Or.inr ⟨[],x,L,rfl,(fun _ h=>by cases h),hp,by grind⟩
  |false=>
   rcases zdR p L with⟨h1,h2⟩|⟨L1,e,L2,h1,h2,h3,h4⟩
   .grind
   .grind
structure Zh where
 st:Int
 fin:Int
 div:Int
 key:Int
def cNt(n:Zh):List Zc:=[.int .i64 n.st,.int .i64 n.fin,.int .i64 n.div,.int .i64 n.key]
def atC(p:List Zh)(a b:Int):List Zh:=p.filter fun n=>n.div==a&&n.key==b
def j0(p:List Zh):List Zc:=p.flatMap cNt
theorem zf6(p:List Zh):(j0 p).length=p.length*4:=by induction p<;>grind[cNt,j0,Yzh]
theorem zsu(p r:List Zh):j0 (p++r)=j0 p++j0 r:=List.flatMap_append ..
structure Zl (lo:Nat) (h:Za) (bm:BN) (p:List Zh) (L:List Zj):Prop where
 map:h.t.get bm=some (.map (mEs L))
 row:∀e∈L,e.n=(atC p e.a e.b).length/\h.t.get e.blk=some (.cells (j0 (atC p e.a e.b)) 4)/\lo<=e.blk.toNat/\e.blk≠bm
 key:L.Pairwise fun e f=>¬(e.a=f.a/\e.b=f.b)
 dis:L.Pairwise fun e f=>e.blk≠f.blk
 all:∀n∈p,∃e∈L,e.a=n.div/\e.b=n.key
theorem zeZ(p:List Zh)(n:Zh)(a b:Int):atC (p++[n]) a b=atC p a b++if n.div=a/\n.key=b then[n] else[]:=by
 unfold atC
 grind
theorem Zl.none{lo:Nat}{h:Za}{bm:BN}{p:List Zh}{L:List Zj}(M:Zl lo h bm p L){a b:Int}(hn:∀x∈L,Zj.is a b x=false):atC p a b=[]:=by refine List.filter_eq_nil_iff.2 fun n hn'=>?_;intro hc;rw[LzC,beq_iff_eq,beq_iff_eq]at hc;obtain⟨e,he,h1,h2⟩:=M.all n hn';have:=hn e he;simp_all[Zj.is]
theorem Zl.add{lo:Nat}{h h':Za}{bm b':BN}{p:List Zh}{L:List Zj}{n:Zh}(M:Zl lo h bm p L)(hn:∀x∈L,Zj.is n.div n.key x=false)
  (hm:h'.t.get bm=some (.map (mEs L++[(wx n.div n.key,.one (.slc b' 0 1 0 false))]))) (hr:h'.t.get b'=some (.cells (cNt n) 4)) (hlo:lo<=b'.toNat) (hb:b'≠bm) (hne:∀e∈L,e.blk≠b') (hold:∀e∈L,h'.t.get e.blk=h.t.get e.blk):
  Zl lo h' bm (p++[n]) (L++[⟨n.div,n.key,b',1⟩]):=by
 have e0:=M.none hn;have nk:∀e∈L,¬(n.div=e.a/\n.key=e.b):=fun e he hc=>by have:=hn e he;simp_all[Zj.is]
 refine⟨by rw[hm,zlM];rfl,fun e he=>?_,?_,?_,fun x hx=>?_⟩
 .rcases List.mem_append.1 he with he|he
  .obtain⟨h1,h2,h3,h4⟩:=M.row e he;simp_all[zeZ,Yza]
  .rw[Yz6.1 he];have:atC (p++[n]) n.div n.key=[n]:=by rw[zeZ,Yzc ⟨rfl,rfl⟩,e0];rfl
   show 1=(atC (p++[n]) n.div n.key).length/\h'.t.get b'=some (.cells (j0 (atC (p++[n]) n.div n.key)) 4)/\_;rw[this];trivial
 .refine List.pairwise_append.2 ⟨M.key,List.pairwise_singleton ..,fun e he f hf=>?_⟩
  grind
 .refine List.pairwise_append.2 ⟨M.dis,List.pairwise_singleton ..,fun e he f hf=>?_⟩
  grind
 .rcases List.mem_append.1 hx with hx|hx
  .obtain⟨e,he,h1⟩:=M.all x hx
   grind
  .simp_all
theorem Zl.put{lo:Nat}{h h':Za}{bm b':BN}{p:List Zh}{L1 L2:List Zj}{e:Zj}{n:Zh}(M:Zl lo h bm p (L1++e::L2))(he:Zj.is n.div n.key e=true)
  (hm:h'.t.get bm=some (.map (mEs L1++(wx n.div n.key,.one (.slc b' 0 (e.n+1) 0 false))::mEs L2))) (hr:h'.t.get b'=some (.cells (j0 (atC p e.a e.b)++cNt n) 4)) (hlo:lo<=b'.toNat) (hb:b'≠bm)
  (hne:∀x∈L1++e::L2,x.blk≠b') (hold:∀x∈L1++e::L2,x.blk≠e.blk->h'.t.get x.blk=h.t.get x.blk):
  Zl lo h' bm (p++[n]) (L1++⟨n.div,n.key,b',e.n+1⟩::L2):=by
 obtain⟨ea,eb⟩:=zse he;have mem:e∈L1++e::L2:=Yzr _ (Yzf ..);have kp:=List.pairwise_append.1 M.key;have kq:=List.pairwise_cons.1 kp.2.1;have dp:=List.pairwise_append.1 M.dis;have dq:=List.pairwise_cons.1 dp.2.1;have k1:∀x∈L1,¬(x.a=e.a/\x.b=e.b):=fun x hx=>kp.2.2 x hx e (Yzf ..);have k2:∀x∈L2,¬(e.a=x.a/\e.b=x.b):=fun x hx=>kq.1 x hx;have d1:∀x∈L1,x.blk≠e.blk:=fun x hx=>dp.2.2 x hx e (Yzf ..);have d2:∀x∈L2,x.blk≠e.blk:=fun x hx hc=>dq.1 x hx hc.symm;have old:∀x,x∈L1++e::L2->x.blk≠e.blk->¬(x.a=e.a/\x.b=e.b)->x.n=(atC (p++[n]) x.a x.b).length/\h'.t.get x.blk=some (.cells (j0 (atC (p++[n]) x.a x.b)) 4)/\lo<=x.blk.toNat/\x.blk≠bm:=fun x hx hd hk=>by
  obtain⟨h1,h2,h3,h4⟩:=M.row x hx;have:atC (p++[n]) x.a x.b=atC p x.a x.b:=by rw[zeZ,Yza fun hc=>hk ⟨by omega,by omega⟩,YzP]
  grind
 refine⟨by rw[hm,zlM];rfl,fun x hx=>?_,?_,?_,fun x hx=>?_⟩
 .rcases List.mem_append.1 hx with hx|hx
  .grind
  .rcases Yya.1 hx with rfl|hx
   .obtain⟨h1,h2,h3,h4⟩:=M.row e mem;have:atC (p++[n]) n.div n.key=atC p e.a e.b++[n]:=by rw[zeZ,Yzc ⟨rfl,rfl⟩,ea,eb]
    show e.n+1=(atC (p++[n]) n.div n.key).length/\h'.t.get b'=some (.cells (j0 (atC (p++[n]) n.div n.key)) 4)/\_;rw[this,Yzx,zsu,hr,h1];trivial
   .grind
 .refine List.pairwise_append.2 ⟨kp.1,List.pairwise_cons.2 ⟨fun x hx hc=>k2 x hx ⟨ea.symm.trans hc.1,eb.symm.trans hc.2⟩,kq.2⟩,fun x hx f hf=>?_⟩
  grind
 .refine List.pairwise_append.2 ⟨dp.1,List.pairwise_cons.2 ⟨fun x hx hc=>hne x (Yzr _ (Yze _ hx)) hc.symm,dq.2⟩,fun x hx f hf=>?_⟩
  grind
 .rcases List.mem_append.1 hx with hx|hx
  .obtain⟨f,hf,h1,h2⟩:=M.all x hx;rcases List.mem_append.1 hf with hf|hf
   .grind
   .rcases Yya.1 hf with rfl|hf
    .exact⟨_,Yzr _ (Yzf ..),ea.trans h1,eb.trans h2⟩
    .grind
  .rw[Yz6.1 hx];exact⟨_,Yzr _ (Yzf ..),rfl,rfl⟩
end Go.PE
end
noncomputable section
namespace Go.CE
def zk9(q:Nat⊕List Nat)(z:SVal)(m k:Zb)(h:Za):Res:=zbH q z (zu m) (zu k) yw .nil h
def zp7(m s v:Zb)(h:Za):Res:=zbI (zu m) (zu s) (zu v) yw .nil h
def zzV{β:Type}(d:List BN)(h:Za)(k:Za->Option β):Option β:=match shut d h with|some h'=>k h'|none=>none
end Go.CE
namespace Go.Proofs.Tryz.Kn
open Go Go.CE Go.PE
set_option linter.unusedVariables false
def zy5(call:zh)(f:Nat)(v71:Zb)(h148:Za)(v37:Zb)(v21:Zb)(y29:List Zb)(v31:Zb)(v33:Zb)(v35:Zb)(v41:Zb)(v43:Zb)(v45:Zb)(v47:Zb)(v49:Zb)(v51:Zb)(v53:Zb)(v55:Zb)(v57:Zb)(v59:Zb)(v61:Zb)(v63:Zb)(v65:Zb)(v67:Zb)(v69:Zb)(v75:Zb)(v77:Zb)(v79:Zb)(v81:Zb)(v83:Zb)(v85:Zb)(v87:Zb)(v89:Zb)(v93:Zb)(v95:Zb)(v97:Zb)(v99:Zb)(v101:Zb)(v103:Zb)(v105:Zb)(v107:Zb)(v109:Zb)(v111:Zb)(v113:Zb)(v115:Zb)(v117:Zb)(v17:Zb)(v119:Zb)(v121:Zb)(v123:Zb)(v125:Zb)(v127:Zb)(v129:Zb)(v131:Zb)(v133:Zb)(v135:Zb)(v137:Zb)(v139:Zb)(v141:Zb)(v143:Zb)(v145:Zb)(v147:Zb)(dd:List BN):Option (Zf×List Zb×Za×List BN):=
 bindR (wE (some 2) v71 h148) fun v149 h150=>
 bindR (wE (some 4) v37 h150) fun v151 h152=>
 bindR (zla 4 1 [.int .i64 (.ofNat 0),.int .i64 (.ofNat 0),.int .i64 (.ofNat 0),.int .i64 (.ofNat 0)] [(0,4,v151)] h152) fun v153 h154=>
 bindR (zk9 (.inr [1,1]) (.one (.nils)) v21 v149 h154) fun v155 h156=>
 bindR (wP v155 0 h156) fun v157 h158=>
 bindR (zch false 4 32 v157 v153 h158) fun v159 h160=>
 bindR (wP v155 1 h160) fun v161 h162=>
 bindR (zp7 v21 v161 v159 h162) fun v163 h164=>
 bindR (zgC zvg (zG y29 79) (.s (.one (.int .i64 (.ofNat 1)))) h164) fun v165 h166=>
 some (.normal,[v31,v33,v35,v37,v41,v43,v45,v45,v47,v49,v51,v53,v55,v57,v59,(zG y29 15),v61,v63,v65,v67,v69,v71,v75,v77,v79,v81,v83,v85,v87,v89,v93,v95,v97,v99,v101,v101,v103,v105,v107,v109,v111,v113,v113,(zG y29 15),v115,v117,v17,v119,v119,v121,v123,v125,v127,v129,v129,(zG y29 15),v131,v133,v135,v137,v139,v139,(zG y29 15),v21,v141,v143,v145,v147,v147,(zG y29 15),v21,v149,v151,v153,v155,v157,v159,v161,v165,v165],h166,dd)
def zy4(call:zh)(f:Nat)(v71:Zb)(h140:Za)(v21:Zb)(v37:Zb)(v31:Zb)(v33:Zb)(v35:Zb)(v41:Zb)(v43:Zb)(v45:Zb)(v47:Zb)(v49:Zb)(v51:Zb)(v53:Zb)(v55:Zb)(v57:Zb)(v59:Zb)(v61:Zb)(v63:Zb)(v65:Zb)(v67:Zb)(v69:Zb)(v75:Zb)(v77:Zb)(v79:Zb)(v81:Zb)(v83:Zb)(v85:Zb)(v87:Zb)(v89:Zb)(v93:Zb)(v95:Zb)(v97:Zb)(v99:Zb)(v101:Zb)(v103:Zb)(v105:Zb)(v107:Zb)(v109:Zb)(v111:Zb)(v113:Zb)(v115:Zb)(v117:Zb)(v17:Zb)(v119:Zb)(v121:Zb)(v123:Zb)(v125:Zb)(v127:Zb)(v129:Zb)(v131:Zb)(v133:Zb)(v135:Zb)(v137:Zb)(v139:Zb)(y29:List Zb)(dd:List BN):Option (Zf×List Zb×Za×List BN):=
 bindR (wE (some 2) v71 h140) fun v141 h142=>
 bindR (zhO (.inr [1,1]) (.one (.nils)) false v21 v141 h142) fun v143 h144=>
 bindR (zoz 74 [v37] h144) fun v145 h146=>
 bindR (call (.inl 58) [v143,v145] h146) fun v147 h148=>
 ifK v147
 (some (.ret,[v31,v33,v35,v37,v41,v43,v45,v45,v47,v49,v51,v53,v55,v57,v59,(.s (.one (.int .i64 (.ofNat 14)))),v61,v63,v65,v67,v69,v71,v75,v77,v79,v81,v83,v85,v87,v89,v93,v95,v97,v99,v101,v101,v103,v105,v107,v109,v111,v113,v113,(.s (.one (.int .i64 (.ofNat 14)))),v115,v117,v17,v119,v119,v121,v123,v125,v127,v129,v129,(.s (.one (.int .i64 (.ofNat 14)))),v131,v133,v135,v137,v139,v139,(.s (.one (.int .i64 (.ofNat 14)))),v21,v141,v143,v145,v147,v147,(.s (.one (.int .i64 (.ofNat 14)))),(zG y29 70),(zG y29 71),(zG y29 72),(zG y29 73),(zG y29 74),(zG y29 75),(zG y29 76),(zG y29 77),(zG y29 78),(zG y29 79)],h148,dd))
 (zy5 call f v71 h148 v37 v21 y29 v31 v33 v35 v41 v43 v45 v47 v49 v51 v53 v55 v57 v59 v61 v63 v65 v67 v69 v75 v77 v79 v81 v83 v85 v87 v89 v93 v95 v97 v99 v101 v103 v105 v107 v109 v111 v113 v115 v117 v17 v119 v121 v123 v125 v127 v129 v131 v133 v135 v137 v139 v141 v143 v145 v147 dd)
def zy3(call:zh)(f:Nat)(v37:Zb)(h130:Za)(v31:Zb)(v33:Zb)(v35:Zb)(v41:Zb)(v43:Zb)(v45:Zb)(v47:Zb)(v49:Zb)(v51:Zb)(v53:Zb)(v55:Zb)(v57:Zb)(v59:Zb)(v61:Zb)(v63:Zb)(v65:Zb)(v67:Zb)(v69:Zb)(v71:Zb)(v75:Zb)(v77:Zb)(v79:Zb)(v81:Zb)(v83:Zb)(v85:Zb)(v87:Zb)(v89:Zb)(v93:Zb)(v95:Zb)(v97:Zb)(v99:Zb)(v101:Zb)(v103:Zb)(v105:Zb)(v107:Zb)(v109:Zb)(v111:Zb)(v113:Zb)(v115:Zb)(v117:Zb)(v17:Zb)(v119:Zb)(v121:Zb)(v123:Zb)(v125:Zb)(v127:Zb)(v129:Zb)(y29:List Zb)(dd:List BN)(v21:Zb):Option (Zf×List Zb×Za×List BN):=
 bindR (uq v37 0 h130) fun v131 h132=>
 bindR (wE none v131 h132) fun v133 h134=>
 bindR (uq v37 1 h134) fun v135 h136=>
 bindR (wE none v135 h136) fun v137 h138=>
 bindR (zgC zBz v133 v137 h138) fun v139 h140=>
 ifK v139
 (some (.ret,[v31,v33,v35,v37,v41,v43,v45,v45,v47,v49,v51,v53,v55,v57,v59,(.s (.one (.int .i64 (.ofNat 6)))),v61,v63,v65,v67,v69,v71,v75,v77,v79,v81,v83,v85,v87,v89,v93,v95,v97,v99,v101,v101,v103,v105,v107,v109,v111,v113,v113,(.s (.one (.int .i64 (.ofNat 6)))),v115,v117,v17,v119,v119,v121,v123,v125,v127,v129,v129,(.s (.one (.int .i64 (.ofNat 6)))),v131,v133,v135,v137,v139,v139,(.s (.one (.int .i64 (.ofNat 6)))),(zG y29 63),(zG y29 64),(zG y29 65),(zG y29 66),(zG y29 67),(zG y29 68),(.s (.one (.int .i64 (.ofNat 6)))),(zG y29 70),(zG y29 71),(zG y29 72),(zG y29 73),(zG y29 74),(zG y29 75),(zG y29 76),(zG y29 77),(zG y29 78),(zG y29 79)],h140,dd))
 (zy4 call f v71 h140 v21 v37 v31 v33 v35 v41 v43 v45 v47 v49 v51 v53 v55 v57 v59 v61 v63 v65 v67 v69 v75 v77 v79 v81 v83 v85 v87 v89 v93 v95 v97 v99 v101 v103 v105 v107 v109 v111 v113 v115 v117 v17 v119 v121 v123 v125 v127 v129 v131 v133 v135 v137 v139 y29 dd)
def zy2(call:zh)(f:Nat)(v37:Zb)(h114:Za)(v17:Zb)(v19:Zb)(v31:Zb)(v33:Zb)(v35:Zb)(v41:Zb)(v43:Zb)(v45:Zb)(v47:Zb)(v49:Zb)(v51:Zb)(v53:Zb)(v55:Zb)(v57:Zb)(v59:Zb)(v61:Zb)(v63:Zb)(v65:Zb)(v67:Zb)(v69:Zb)(v71:Zb)(v75:Zb)(v77:Zb)(v79:Zb)(v81:Zb)(v83:Zb)(v85:Zb)(v87:Zb)(v89:Zb)(v93:Zb)(v95:Zb)(v97:Zb)(v99:Zb)(v101:Zb)(v103:Zb)(v105:Zb)(v107:Zb)(v109:Zb)(v111:Zb)(v113:Zb)(y29:List Zb)(dd:List BN)(v21:Zb):Option (Zf×List Zb×Za×List BN):=
 bindR (uq v37 0 h114) fun v115 h116=>
 bindR (wE none v115 h116) fun v117 h118=>
 bindR (zgC zyC v117 v17 h118) fun v119 h120=>
 bindR (gK v119 false h120 (uq v37 1 h120)) fun v121 h122=>
 bindR (gK v119 false h122 (wE none v121 h122)) fun v123 h124=>
 bindR (gK v119 false h124 (some (v19,h124))) fun v125 h126=>
 bindR (gK v119 false h126 (zgC zzl v123 v125 h126)) fun v127 h128=>
 bindR (zhM v119 (.s (.one (.bool true))) v127 h128) fun v129 h130=>
 ifK v129
 (some (.ret,[v31,v33,v35,v37,v41,v43,v45,v45,v47,v49,v51,v53,v55,v57,v59,(.s (.one (.int .i64 (.ofNat 3)))),v61,v63,v65,v67,v69,v71,v75,v77,v79,v81,v83,v85,v87,v89,v93,v95,v97,v99,v101,v101,v103,v105,v107,v109,v111,v113,v113,(.s (.one (.int .i64 (.ofNat 3)))),v115,v117,v17,v119,v119,v121,v123,v125,v127,v129,v129,(.s (.one (.int .i64 (.ofNat 3)))),(zG y29 56),(zG y29 57),(zG y29 58),(zG y29 59),(zG y29 60),(zG y29 61),(.s (.one (.int .i64 (.ofNat 3)))),(zG y29 63),(zG y29 64),(zG y29 65),(zG y29 66),(zG y29 67),(zG y29 68),(.s (.one (.int .i64 (.ofNat 3)))),(zG y29 70),(zG y29 71),(zG y29 72),(zG y29 73),(zG y29 74),(zG y29 75),(zG y29 76),(zG y29 77),(zG y29 78),(zG y29 79)],h130,dd))
 (zy3 call f v37 h130 v31 v33 v35 v41 v43 v45 v47 v49 v51 v53 v55 v57 v59 v61 v63 v65 v67 v69 v71 v75 v77 v79 v81 v83 v85 v87 v89 v93 v95 v97 v99 v101 v103 v105 v107 v109 v111 v113 v115 v117 v17 v119 v121 v123 v125 v127 v129 y29 dd v21)
def zy1(call:zh)(f:Nat)(v37:Zb)(h60:Za)(v1:Zb)(v31:Zb)(v33:Zb)(v35:Zb)(v41:Zb)(v43:Zb)(v45:Zb)(v47:Zb)(v49:Zb)(v51:Zb)(v53:Zb)(v55:Zb)(v57:Zb)(v59:Zb)(y29:List Zb)(dd:List BN)(v17:Zb)(v19:Zb)(v21:Zb):Option (Zf×List Zb×Za×List BN):=
 bindR (uq v37 2 h60) fun v61 h62=>
 bindR (wE none v61 h62) fun v63 h64=>
 bindR (uq v37 3 h64) fun v65 h66=>
 bindR (wE none v65 h66) fun v67 h68=>
 bindR (zjt [.int .i64 (.ofNat 0),.int .i64 (.ofNat 0)] [(0,1,v63),(1,1,v67)] h68) fun v69 h70=>
 bindR (zju [.int .i64 (.ofNat 0),.int .i64 (.ofNat 0)] h70) fun v71 h72=>
 bindR (ze5 2 v71 v69 h72) fun v73 h74=>
 bindR (uq v1 2 h74) fun v75 h76=>
 bindR (wE none v75 h76) fun v77 h78=>
 bindR (uq v37 2 h78) fun v79 h80=>
 bindR (wE none v79 h80) fun v81 h82=>
 bindR (zvH 5 v77 v81 h82) fun v83 h84=>
 bindR (uq v83 2 h84) fun v85 h86=>
 bindR (wE (some 2) v85 h86) fun v87 h88=>
 bindR (zju [.int .i64 (.ofNat 0),.int .i64 (.ofNat 0)] h88) fun v89 h90=>
 bindR (ze5 2 v89 v87 h90) fun v91 h92=>
 bindR (uq v37 3 h92) fun v93 h94=>
 bindR (wE none v93 h94) fun v95 h96=>
 bindR (uq v89 0 h96) fun v97 h98=>
 bindR (wE none v97 h98) fun v99 h100=>
 bindR (zgC zyC v95 v99 h100) fun v101 h102=>
 bindR (gK v101 false h102 (uq v37 3 h102)) fun v103 h104=>
 bindR (gK v101 false h104 (wE none v103 h104)) fun v105 h106=>
 bindR (gK v101 false h106 (uq v89 1 h106)) fun v107 h108=>
 bindR (gK v101 false h108 (wE none v107 h108)) fun v109 h110=>
 bindR (gK v101 false h110 (zgC zzl v105 v109 h110)) fun v111 h112=>
 bindR (zhM v101 (.s (.one (.bool true))) v111 h112) fun v113 h114=>
 ifK v113
 (some (.ret,[v31,v33,v35,v37,v41,v43,v45,v45,v47,v49,v51,v53,v55,v57,v59,(.s (.one (.int .i64 (.ofNat 23)))),v61,v63,v65,v67,v69,v71,v75,v77,v79,v81,v83,v85,v87,v89,v93,v95,v97,v99,v101,v101,v103,v105,v107,v109,v111,v113,v113,(.s (.one (.int .i64 (.ofNat 23)))),(zG y29 44),(zG y29 45),(zG y29 46),(zG y29 47),(zG y29 48),(zG y29 49),(zG y29 50),(zG y29 51),(zG y29 52),(zG y29 53),(zG y29 54),(.s (.one (.int .i64 (.ofNat 23)))),(zG y29 56),(zG y29 57),(zG y29 58),(zG y29 59),(zG y29 60),(zG y29 61),(.s (.one (.int .i64 (.ofNat 23)))),(zG y29 63),(zG y29 64),(zG y29 65),(zG y29 66),(zG y29 67),(zG y29 68),(.s (.one (.int .i64 (.ofNat 23)))),(zG y29 70),(zG y29 71),(zG y29 72),(zG y29 73),(zG y29 74),(zG y29 75),(zG y29 76),(zG y29 77),(zG y29 78),(zG y29 79)],h114,dd))
 (zy2 call f v37 h114 v17 v19 v31 v33 v35 v41 v43 v45 v47 v49 v51 v53 v55 v57 v59 v61 v63 v65 v67 v69 v71 v75 v77 v79 v81 v83 v85 v87 v89 v93 v95 v97 v99 v101 v103 v105 v107 v109 v111 v113 y29 dd v21)
def zy0(call:zh)(f:Nat)(v25:Zb)(y29:List Zb)(h32:Za)(v1:Zb)(v31:Zb)(dd:List BN)(v17:Zb)(v19:Zb)(v21:Zb):Option (Zf×List Zb×Za×List BN):=
 bindR (zvH 4 v25 (zG y29 79) h32) fun v33 h34=>
 bindR (wE (some 4) v33 h34) fun v35 h36=>
 bindR (zju [.int .i64 (.ofNat 0),.int .i64 (.ofNat 0),.int .i64 (.ofNat 0),.int .i64 (.ofNat 0)] h36) fun v37 h38=>
 bindR (ze5 4 v37 v35 h38) fun v39 h40=>
 bindR (uq v37 2 h40) fun v41 h42=>
 bindR (wE none v41 h42) fun v43 h44=>
 bindR (zgC zyC v43 (.s (.one (.int .i64 (.ofNat 0)))) h44) fun v45 h46=>
 bindR (gK v45 false h46 (uq v37 2 h46)) fun v47 h48=>
 bindR (gK v45 false h48 (wE none v47 h48)) fun v49 h50=>
 bindR (gK v45 false h50 (uq v1 2 h50)) fun v51 h52=>
 bindR (gK v45 false h52 (wE none v51 h52)) fun v53 h54=>
 bindR (gK v45 false h54 (zgB v53 h54)) fun v55 h56=>
 bindR (gK v45 false h56 (zgC zBz v49 v55 h56)) fun v57 h58=>
 bindR (zhM v45 (.s (.one (.bool true))) v57 h58) fun v59 h60=>
 ifK v59
 (some (.ret,[v31,v33,v35,v37,v41,v43,v45,v45,v47,v49,v51,v53,v55,v57,v59,(.s (.one (.int .i64 (.ofNat 10)))),(zG y29 16),(zG y29 17),(zG y29 18),(zG y29 19),(zG y29 20),(zG y29 21),(zG y29 22),(zG y29 23),(zG y29 24),(zG y29 25),(zG y29 26),(zG y29 27),(zG y29 28),(zG y29 29),(zG y29 30),(zG y29 31),(zG y29 32),(zG y29 33),(zG y29 34),(zG y29 35),(zG y29 36),(zG y29 37),(zG y29 38),(zG y29 39),(zG y29 40),(zG y29 41),(zG y29 42),(.s (.one (.int .i64 (.ofNat 10)))),(zG y29 44),(zG y29 45),(zG y29 46),(zG y29 47),(zG y29 48),(zG y29 49),(zG y29 50),(zG y29 51),(zG y29 52),(zG y29 53),(zG y29 54),(.s (.one (.int .i64 (.ofNat 10)))),(zG y29 56),(zG y29 57),(zG y29 58),(zG y29 59),(zG y29 60),(zG y29 61),(.s (.one (.int .i64 (.ofNat 10)))),(zG y29 63),(zG y29 64),(zG y29 65),(zG y29 66),(zG y29 67),(zG y29 68),(.s (.one (.int .i64 (.ofNat 10)))),(zG y29 70),(zG y29 71),(zG y29 72),(zG y29 73),(zG y29 74),(zG y29 75),(zG y29 76),(zG y29 77),(zG y29 78),(zG y29 79)],h60,dd))
 (zy1 call f v37 h60 v1 v31 v33 v35 v41 v43 v45 v47 v49 v51 v53 v55 v57 v59 y29 dd v17 v19 v21)
def zte(call:zh)(f:Nat)(v27:Zb)(v25:Zb)(v1:Zb)(v17:Zb)(v19:Zb)(v21:Zb)(y29:List Zb)(h30:Za)(dd:List BN):Option (Zf×List Zb×Za×List BN):=
 bindR (zgC zyC (zG y29 79) v27 h30) fun v31 h32=>
 ifK v31
 (zy0 call f v25 y29 h32 v1 v31 dd v17 v19 v21)
 (some (.exit 0,[v31,(zG y29 1),(zG y29 2),(zG y29 3),(zG y29 4),(zG y29 5),(zG y29 6),(zG y29 7),(zG y29 8),(zG y29 9),(zG y29 10),(zG y29 11),(zG y29 12),(zG y29 13),(zG y29 14),(zG y29 15),(zG y29 16),(zG y29 17),(zG y29 18),(zG y29 19),(zG y29 20),(zG y29 21),(zG y29 22),(zG y29 23),(zG y29 24),(zG y29 25),(zG y29 26),(zG y29 27),(zG y29 28),(zG y29 29),(zG y29 30),(zG y29 31),(zG y29 32),(zG y29 33),(zG y29 34),(zG y29 35),(zG y29 36),(zG y29 37),(zG y29 38),(zG y29 39),(zG y29 40),(zG y29 41),(zG y29 42),(zG y29 15),(zG y29 44),(zG y29 45),(zG y29 46),(zG y29 47),(zG y29 48),(zG y29 49),(zG y29 50),(zG y29 51),(zG y29 52),(zG y29 53),(zG y29 54),(zG y29 15),(zG y29 56),(zG y29 57),(zG y29 58),(zG y29 59),(zG y29 60),(zG y29 61),(zG y29 15),(zG y29 63),(zG y29 64),(zG y29 65),(zG y29 66),(zG y29 67),(zG y29 68),(zG y29 15),(zG y29 70),(zG y29 71),(zG y29 72),(zG y29 73),(zG y29 74),(zG y29 75),(zG y29 76),(zG y29 77),(zG y29 78),(zG y29 79)],h32,dd))
def M46(call:zh)(f:Nat)(a0 a1:Zb)(h0:Za):Res:=
 bindR (zCd a0 h0) fun v1 h2=>
 bindR (zCd a1 h2) fun v3 h4=>
 bindR (uq v3 1 h4) fun v5 h6=>
 bindR (wE none v5 h6) fun v7 h8=>
 bindR (zgB v7 h8) fun v9 h10=>
 bindR (zgC zzl v9 (.s (.one (.int .i64 (.ofNat 1000)))) h10) fun v11 h12=>
 ifK v11
 (zb4 h12 (zdX (zqI (.s (.one (.int .i64 (.ofNat 4))))) (some [])))
 (bindR (wE (some 3) v3 h12) fun v13 h14=>
 bindR (call (.inl 73) [v13] h14) fun v15 h16=>
 bindR (wP v15 0 h16) fun v17 h18=>
 bindR (wP v15 1 h18) fun v19 h20=>
 bindR (zp6 h20) fun v21 h22=>
 bindR (uq v3 1 h22) fun v23 h24=>
 bindR (wE none v23 h24) fun v25 h26=>
 bindR (zgB v25 h26) fun v27 h28=>
 bindX (zc4 (zte call f v27 v25 v1 v17 v19 v21) f [zn,zn,zn,zn,zn,zn,zn,zn,zn,zn,zn,zn,zn,zn,zn,(.s (.one (.int .i64 (.ofNat 0)))),zn,zn,zn,zn,zn,zn,zn,zn,zn,zn,zn,zn,zn,zn,zn,zn,zn,zn,zn,zn,zn,zn,zn,zn,zn,zn,zn,(.s (.one (.int .i64 (.ofNat 0)))),zn,zn,zn,zn,zn,zn,zn,zn,zn,zn,zn,(.s (.one (.int .i64 (.ofNat 0)))),zn,zn,zn,zn,zn,zn,(.s (.one (.int .i64 (.ofNat 0)))),zn,zn,zn,zn,zn,zn,(.s (.one (.int .i64 (.ofNat 0)))),zn,zn,zn,zn,zn,zn,zn,zn,zn,(.s (.one (.int .i64 (.ofNat 0))))] h28 []) (fun n169 y167 h168 d168=>
 bif Nat.beq n169 0 then
 zzV d168 h168 fun h168=>zb4 h168 (zdX (zqI (.s (.one (.int .i64 (.ofNat 0))))) (some []))
 else none)
 (fun y170 h171 d171=>
 zzV d171 h171 fun h171=>zb4 h171 (zdX (zqI (zG y170 15)) (some []))))
theorem m46(call:zh)(f:Nat)(a0 a1:Zb)(h0:Za):znI Tryz.prog 46 call f [a0,a1] h0=M46 call f a0 a1 h0:=by kernel_rfl
abbrev iC(n:Int):Zc:=.int .i64 n
abbrev iV(n:Int):Zb:=.s (.one (.int .i64 n))
def x7(n:Zh):List DV:=[.int .i64 n.st,.int .i64 n.fin,.int .i64 n.div,.int .i64 n.key]
def ovN(n m:Zh):Bool:=decide (n.st<m.fin)&&decide (m.st<n.fin)
theorem zaz:∀(q:List Zh) (i j:Nat) (n:Zh),j<4->q[i]? = some n->(j0 q)[i*4+j]? = (cNt n)[j]?
 | [],_,_,_,_,h=>by cases h
 |x::q,0,j,n,hj,h=>by cases h;show (cNt x++j0 q)[0*4+j]? = _;rw[Nat.zero_mul,Yzi,Lz2 (show j<(cNt x).length from hj)]
 |x::q,i+1,j,n,hj,h=>by show (cNt x++j0 q)[(i+1)*4+j]? = _;rw[Lz8 (show (cNt x).length<=(i+1)*4+j by show 4<=_;omega),show (i+1)*4+j-(cNt x).length=i*4+j by show (i+1)*4+j-4=_;omega];exact zaz q i j n hj h
theorem zst(q:List Zh)(i:Nat)(n:Zh)(h:q[i]? = some n):((j0 q).drop (i*4)).take 4=cNt n:=by
 refine Yz3 fun j=>?_;by_cases hj:j<4
 .rw[YzB,Yzc hj,Yzu];exact zaz q i j n hj h
 .rw[YzB,Yza hj,List.getElem?_eq_none (show (cNt n).length<=j by show 4<=j;omega)]
theorem zt8{fz:BN->Prop}{h:Za}{b:BN}(q:List Zh)(hb:fz b)(hg:h.t.get b=some (.cells (j0 q) 4)):Rep fz h (.slc b 0 q.length 0 false) (.lst 4 (q.map x7)):=by
 have hl:(q.map x7).length=q.length:=Yzm ..;have:Rep fz h (.slc b 0 (q.map x7).length 0 false) (.lst 4 (q.map x7)):=by
  refine .lst (j0 q) hb hg (fun h=>by cases h) ?_ (fun i x hx=>?_) fun i x j c d hx hc hd=>?_
  .rw[hl,<-zf6];exact zbU _
  .rw[Lz6]at hx;cases hq:q[i]? with
   |none=>rw[hq]at hx;cases hx
   |some n=>rw[hq]at hx;cases hx;rfl
  .rw[Lz6]at hx;cases hq:q[i]? with
   |none=>rw[hq]at hx;cases hx
   |some n=>rw[hq]at hx;cases hx;have hj:j<4:=(Lz0.1 hd).1;rw[zaz q i j n hj hq]at hc;rcases (show j=0\/j=1\/j=2\/j=3 by omega) with rfl|rfl|rfl|rfl<;>cases hc<;>cases hd<;>exact .int _ _
 rw[hl]at this;exact this
def zjn(h:Za)(c:Zc)(ns:List Zh):Prop:=(c=.nils/\ns=[])\/∃b off cap ex o,c=.slc b off ns.length cap ex/\h.t.get b=some o/\rd (ns.length*4) off o=some (j0 ns)
def zkZ(h:Za)(c:Zc)(ks:List (Int×Int)):Prop:=(c=.nils/\ks=[])\/∃b off cap ex o cs,c=.slc b off ks.length cap ex/\h.t.get b=some o/\rd (ks.length*5) off o=some cs/\∀i k,ks[i]? = some k->(cs.drop (i*5+2)).take 2=[iC k.1,iC k.2]
def zb1(ks:List (Int×Int))(first last:Int)(p:List Zh)(n:Zh):Int:=
 if n.div<0\/(ks.length:Int)<=n.div then 10 else match ks[n.div.toNat]? with
  |none=>10
  |some k=>if n.key<k.1\/k.2<n.key then 23 else if n.st<first\/last<n.fin then 3 else if n.fin<=n.st then 6 else if (atC p n.div n.key).any (ovN n) then 14 else 0
end Go.Proofs.Tryz.Kn
end
section
namespace Go.Proofs.Tryz.Kn
open Go Go.CE Go.PE
set_option linter.unusedSimpArgs false
theorem zEe(x:Res)(h:Za):gK (.s (.one (.bool true))) false h x=some (zn,h):=(id rfl)
theorem zEf(x:Res)(h:Za):gK (.s (.one (.bool false))) false h x=x:=(id rfl)
theorem zq0(a b:Zb)(h:Za){β:Type}(k:Zb->Za->Option β):bindR (zhM (.s (.one (.bool true))) a b h) k=k a h:=(id rfl)
theorem zq1(a b:Zb)(h:Za){β:Type}(k:Zb->Za->Option β):bindR (zhM (.s (.one (.bool false))) a b h) k=k b h:=(id rfl)
theorem ztz{β:Type}(a b:Option β):ifK (.s (.one (.bool true))) a b=a:=(id rfl)
theorem zyl{β:Type}(a b:Option β):ifK (.s (.one (.bool false))) a b=b:=(id rfl)
theorem ga4(a b c d:Zc):vC [a,b,c,d] 0=some a/\vC [a,b,c,d] 1=some b/\vC [a,b,c,d] 2=some c/\vC [a,b,c,d] 3=some d:=⟨rfl,rfl,rfl,rfl⟩
theorem ga2(a b:Zc):vC [a,b] 0=some a/\vC [a,b] 1=some b:=⟨rfl,rfl⟩
theorem zFp(a b:Zc):cut 2 [a,b] 0=some [a,b]:=(id rfl)
theorem bs4(n:Zh)(h:Za):zla 4 1 [.int .i64 (.ofNat 0),.int .i64 (.ofNat 0),.int .i64 (.ofNat 0),.int .i64 (.ofNat 0)] [(0,4,.s (.agg (cNt n)))] h=zcZ h (.cells (cNt n) 4) (fun b=>.slc b 0 1 1 true):=(id rfl)
theorem zEh{β:Type}(k:Zb->Za->Option β)(h:Za)(a b:SVal):bindR (wP (.tup [a,b]) 0 h) k=k (.s a) h:=(id rfl)
theorem zEg{β:Type}(k:Zb->Za->Option β)(h:Za)(a b:SVal):bindR (wP (.tup [a,b]) 1 h) k=k (.s b) h:=(id rfl)
theorem ziC(a b:Int):wx a b=.agg [iC a,iC b]:=(id rfl)
theorem ziB(a b:Int):(eqS (.inr [1,1]) (wx a b) (wx a b)).isNone=false:=by rw[zdT];rfl
theorem zpo{h:Za}{bm:BN}{L:List Zj}{a b:Int}(hm:h.t.get bm=some (.map (mEs L)))(hn:∀x∈L,Zj.is a b x=false):
  zk9 (.inr [1,1]) (.one .nils) (.s (.one (.map bm))) (.s (wx a b)) h=some (.tup [.one .nils,.one (.int .i64 (.ofNat (mEs L).length))],h.put bm (.map (mEs L++[(wx a b,SVal.one Zc.nils)]))):=by
 have hf:L.find? (Zj.is a b)=none:=List.find?_eq_none.2 fun x hx=>by grind
 show (bif (eqS (.inr [1,1]) (wx a b) (wx a b)).isNone then none else match h.t.get bm with
  |some (.map es)=>(match uG (.inr [1,1]) (wx a b) es with
   |some none=>some (Zb.tup [SVal.one Zc.nils,SVal.one (Zc.int .i64 (.ofNat es.length))],h.put bm (.map (es++[(wx a b,SVal.one Zc.nils)])))
   |some (some u)=>(match znN (.inr [1,1]) (wx a b) es 0,zcS (.inr [1,1]) (wx a b) u es with
    |some i,some es'=>some (Zb.tup [u,SVal.one (Zc.int .i64 (.ofNat i))],h.put bm (.map es'))
    |_,_=>none)
   |none=>none)
  |_=>none)=_
 grind[ziB,zdg]
theorem zpn{h:Za}{bm:BN}{L1 L2:List Zj}{e:Zj}{a b:Int}(hm:h.t.get bm=some (.map (mEs (L1++e::L2))))(hn:∀x∈L1,Zj.is a b x=false)(he:Zj.is a b e=true)(hf:(L1++e::L2).find? (Zj.is a b)=some e):
  zk9 (.inr [1,1]) (.one .nils) (.s (.one (.map bm))) (.s (wx a b)) h=some (.tup [e.val,.one (.int .i64 (.ofNat L1.length))],h.put bm (.map (mEs (L1++e::L2)))):=by
 show (bif (eqS (.inr [1,1]) (wx a b) (wx a b)).isNone then none else match h.t.get bm with
  |some (.map es)=>(match uG (.inr [1,1]) (wx a b) es with
   |some none=>some (Zb.tup [SVal.one Zc.nils,SVal.one (Zc.int .i64 (.ofNat es.length))],h.put bm (.map (es++[(wx a b,SVal.one Zc.nils)])))
   |some (some u)=>(match znN (.inr [1,1]) (wx a b) es 0,zcS (.inr [1,1]) (wx a b) u es with
    |some i,some es'=>some (Zb.tup [u,SVal.one (Zc.int .i64 (.ofNat i))],h.put bm (.map es'))
    |_,_=>none)
   |none=>none)
  |_=>none)=_
 rw[ziB,hm];show (match uG (.inr [1,1]) (wx a b) (mEs (L1++e::L2)) with
   |some none=>some (Zb.tup [SVal.one Zc.nils,SVal.one (Zc.int .i64 (.ofNat (mEs (L1++e::L2)).length))],h.put bm (.map (mEs (L1++e::L2)++[(wx a b,SVal.one Zc.nils)])))
   |some (some u)=>(match znN (.inr [1,1]) (wx a b) (mEs (L1++e::L2)) 0,zcS (.inr [1,1]) (wx a b) u (mEs (L1++e::L2)) with
    |some i,some es'=>some (Zb.tup [u,SVal.one (Zc.int .i64 (.ofNat i))],h.put bm (.map es'))
    |_,_=>none)
   |none=>none)=_
 rw[zdg,hf];show (match znN (.inr [1,1]) (wx a b) (mEs (L1++e::L2)) 0,zcS (.inr [1,1]) (wx a b) e.val (mEs (L1++e::L2)) with
    |some i,some es'=>some (Zb.tup [e.val,.one (.int .i64 (.ofNat i))],h.put bm (.map es'))
    |_,_=>none)=_
 simp_all[znM,zna]
theorem zwi{h:Za}{bm:BN}{xs ys:List (SVal×SVal)}{k u v:SVal}(hm:h.t.get bm=some (.map (xs++(k,u)::ys))):
  zp7 (.s (.one (.map bm))) (.s (.one (.int .i64 (.ofNat xs.length)))) (.s v) h=some (zn,h.put bm (.map (xs++(k,v)::ys))):=by
 show (match h.t.get bm with
  |some (.map es)=>(match ztU v es xs.length with|some es'=>some (zn,h.put bm (.map es'))|none=>none)
  |_=>none)=_
 grind[zqv]
def zmI(hB:Za)(bm:BN)(E:Int)(i:Nat)(d:List BN)(p:List Zh)(n:Zh)(r:Zf×List Zb×Za×List BN):Prop:=match r.1 with
 | .normal=>E=0/\zG r.2.1 79=iV ((i+1:Nat):Int)/\HW r.2.2.1/\Gr hB r.2.2.1/\bm.toNat<r.2.2.1.n.toNat/\r.2.2.2=d/\∃L',Zl hB.n.toNat r.2.2.1 bm (p++[n]) L'
 | .ret=>E≠0/\zG r.2.1 15=iV E/\HW r.2.2.1/\Gr hB r.2.2.1/\r.2.2.2=d
 | .exit _=>False
theorem zdJ{lo:Nat}{h h':Za}{bm:BN}{p:List Zh}{L:List Zj}(M:Zl lo h bm p L)(w:HW h)(g:Gr h h'):Zl lo h' bm p L:=
 ⟨g.get w M.map,fun e he=>⟨(M.row e he).1,g.get w (M.row e he).2.1,(M.row e he).2.2⟩,M.key,M.dis,M.all⟩
theorem zua{fz:BN->Prop}{h:Za}{b:BN}{n:Zh}(hb:fz b)(hg:h.t.get b=some (.cells (cNt n) 0)):Rep fz h (.fn 74 [(b,0)]) (.fn 74 [x7 n]):=by
 refine .fn (fun _=>cNt n) (fun _=>.cells (cNt n) 0) rfl (fun i p x hp hx=>?_) (fun i p x j c d hp hx hc hd=>?_)
 .match i,hp,hx with
  |0,hp,hx=>cases hp;cases hx;trivial
 .match i,hp,hx with
  |0,hp,hx=>cases hp;cases hx;have hj:j<4:=(Lz0.1 hd).1;rcases (show j=0\/j=1\/j=2\/j=3 by omega) with rfl|rfl|rfl|rfl<;>cases hc<;>cases hd<;>exact .int _ _
theorem zuP{h:Za}{bm:BN}{L:List Zj}{a b:Int}(hm:h.t.get bm=some (.map (mEs L))):
  zhO (.inr [1,1]) (.one .nils) false (.s (.one (.map bm))) (.s (wx a b)) h=some (.s (((L.find? (Zj.is a b)).map Zj.val).getD (.one .nils)),h):=by
 grind[zhO,wW,zu,mapOf,ziB,zdg]
theorem zuT{hB:Za}{c2:Zc}{ks:List (Int×Int)}(DA:zkZ hB c2 ks)(h:Za):zgB (.s (.one c2)) h=some (iV (ks.length:Int),h):=by
 obtain⟨rfl,rfl⟩|⟨bD,offD,capD,exD,oD,cD,rfl,gD,rD,pD⟩:=DA
 .rfl
 .rfl
def nE1(p:List Zh)(n:Zh):Int:=if (atC p n.div n.key).any (ovN n) then 14 else 0
def nE2(p:List Zh)(n:Zh):Int:=if n.fin<=n.st then 6 else nE1 p n
def nE3(first last:Int)(p:List Zh)(n:Zh):Int:=if n.st<first\/last<n.fin then 3 else nE2 p n
def nE4(k:Int×Int)(first last:Int)(p:List Zh)(n:Zh):Int:=if n.key<k.1\/k.2<n.key then 23 else nE3 first last p n
section
variable {C:Nat->zh} {hB:Za} {bm:BN} (hbm:hB.n.toNat<=bm.toNat)
include hbm
theorem zDj{v31 v33 v35 v41 v43 v45 v47 v49 v51 v53 v55 v57 v59 v61 v63 v65 v67 v69 v75 v77 v79 v81 v83 v85 v87 v89 v93 v95 v97 v99 v101 v103 v105 v107 v109 v111 v113 v115 v117 v17 v119 v121 v123 v125 v127 v129 v131 v133 v135 v137 v139 v141 v143 v145 v147:Zb}{i:Nat}{p:List Zh}{n:Zh}{L:List Zj}{h:Za}{b1 bc:BN}{ys:List Zb}{d:List BN}(hi:i<=1000)(hp:p.length<=i)(w:HW h)(G:Gr hB h)(M:Zl hB.n.toNat h bm p L)(hbl:bm.toNat<h.n.toNat)
  (g1:h.t.get b1=some (.cells (cNt n) 0)) (gc:h.t.get bc=some (.cells [iC n.div,iC n.key] 0)) (hy:zG ys 79=iV (i:Int)):
  Ev (fun q=>zy5 (C q) q (.s (.one (.ptr bc 0))) h (.s (.one (.ptr b1 0))) (.s (.one (.map bm))) ys v31 v33 v35 v41 v43 v45 v47 v49 v51 v53 v55 v57 v59 v61 v63 v65 v67 v69 v75 v77 v79 v81 v83 v85 v87 v89 v93 v95 v97 v99 v101 v103 v105 v107 v109 v111 v113 v115 v117 v17 v119 v121 v123 v125 v127 v129 v131 v133 v135 v137 v139 v141 v143 v145 v147 d) (zmI hB bm 0 i d p n):=by
 unfold zy5;simp only[zkb,gc,g1,kLN,zFp,zuY,hy];have c4:cut 4 (cNt n) 0=some (cNt n):=rfl;simp only[c4,zuY,bs4];refine Ev.new w fun bs hs ebs ens gs ws Gs=>?_;have Ms:hs.t.get bm=some (.map (mEs L)):=Gs.get w M.map;have fit:∀m:Nat,m<=1000->fits 32 (m+1)=true:=fun m hm=>xf (by decide) (by omega);have eadd:zvg .i64 (i:Int) (.ofNat 1)=some (iC ((i+1:Nat):Int)):=by
  show some (Zc.int .i64 (xV .i64 ((i+1:Nat):Int)))=_
  grind[wrap64]
 rcases zdR (Zj.is n.div n.key) L with⟨_,hno⟩|⟨L1,e,L2,rfl,hno,he,hf⟩
 .have me:=zpo Ms hno;rw[ziC]at me;simp only[me,zaV,zEh];have wm:=ws.put (o':=.map (mEs L++[(wx n.div n.key,SVal.one Zc.nils)])) Ms;have gm:(hs.put bm (.map (mEs L++[(wx n.div n.key,SVal.one Zc.nils)]))).t.get bm=some (.map (mEs L++[(wx n.div n.key,SVal.one Zc.nils)])):=xh _ _ _;have om:∀b:BN,b≠bm->(hs.put bm (.map (mEs L++[(wx n.div n.key,SVal.one Zc.nils)]))).t.get b=hs.t.get b:=fun b hb=>yN _ _ hb;have Gm:Gr hB (hs.put bm (.map (mEs L++[(wx n.div n.key,SVal.one Zc.nils)]))):=(G.trans Gs).put hbm;have nm:(hs.put bm (.map (mEs L++[(wx n.div n.key,SVal.one Zc.nils)]))).n.toNat=hs.n.toNat:=rfl;rw[<-ziC];generalize hs.put bm (.map (mEs L++[(wx n.div n.key,SVal.one Zc.nils)]))=hm at wm gm om Gm nm;have hbs:bs≠bm:=zmC (by omega);refine Ev.append (st:=4) (n:=0) (m:=1) (ws:=[]) (ob:=none) (new:=cNt n) wm (.nil 4 hm) ((om bs hbs).trans gs) rfl (by decide) (fit 0 (by omega)) fun b' h' eb' en' w' A' old'=>?_;simp only[zEg];have hb':b'≠bm:=zmC (by omega);have gm':h'.t.get bm=some (.map (mEs L++(wx n.div n.key,SVal.one Zc.nils)::[])):=(old' bm (by omega) (by simp)).trans gm;rw[zwi gm'];simp only[zaV,zdN,eadd,zcr];have G':Gr hB h':=⟨by omega,fun c hc=>(old' c (by omega) (by simp)).trans (Gm.old c hc)⟩;refine Ev.some ⟨rfl,rfl,w'.put gm',G'.put hbm,by show bm.toNat<h'.n.toNat;omega,rfl,_,Zl.add M hno (xh _ _ _) ?_ (b':=b') (by omega) hb' (fun e he=>?_) (fun e he=>?_)⟩
  .rw[yN _ _ hb'];obtain⟨_,⟨h1,_⟩|⟨b2,h1,h2,_⟩⟩:=A'<;>grind
  .have:=w _ _ (M.row e he).2.1
   grind
  .have l0:=w _ _ (M.row e he).2.1;have l1:e.blk≠bm:=(M.row e he).2.2.2;rw[yN _ _ l1,old' e.blk (by omega) (by simp),om _ l1,Gs.old _ l0]
 .have me:=zpn Ms hno he hf;rw[ziC]at me;have mem:e∈L1++e::L2:=Yzr _ (Yzf ..);obtain⟨rn,rg,rl,rb⟩:=M.row e mem;obtain⟨ea,eb⟩:=zse he;have len:e.n<=i:=by
   rw[rn];exact Yzl (List.length_filter_le ..) hp
  simp only[me,zaV];have wm:=ws.put (o':=.map (mEs (L1++e::L2))) Ms;have gm:(hs.put bm (.map (mEs (L1++e::L2)))).t.get bm=some (.map (mEs (L1++e::L2))):=xh _ _ _;have om:∀b:BN,b≠bm->(hs.put bm (.map (mEs (L1++e::L2)))).t.get b=hs.t.get b:=fun b hb=>yN _ _ hb;have Gm:Gr hB (hs.put bm (.map (mEs (L1++e::L2)))):=(G.trans Gs).put hbm;have nm:(hs.put bm (.map (mEs (L1++e::L2)))).n.toNat=hs.n.toNat:=rfl;generalize hs.put bm (.map (mEs (L1++e::L2)))=hm at wm gm om Gm nm;have hbs:bs≠bm:=zmC (by omega);have ext0':∀{β:Type} (k:Zb->Za->Option β) (h:Za) (a b:SVal),bindR (wP (.tup [a,b]) 0 h) k=k (.s a) h:=fun k h a b=>rfl;simp only[zEh];have rm:hm.t.get e.blk=some (.cells (j0 (atC p e.a e.b)) 4):=(om _ rb).trans (Gs.get w rg);have A:Acc 4 hm (.slc e.blk 0 e.n 0 false) (j0 (atC p e.a e.b)) e.n (some e.blk):=⟨by rw[zf6,rn],.inr ⟨e.blk,rfl,rm,rfl⟩⟩;have lb:e.blk.toNat<h.n.toNat:=w _ _ rg;refine Ev.append (st:=4) (n:=e.n) (m:=1) (new:=cNt n) wm A ((om bs hbs).trans gs) rfl (by decide) (fit e.n (by omega)) fun b' h' eb' en' w' A' old'=>?_;simp only[zEg];have hb':b'≠bm:=zmC (by omega);have hbe:(some e.blk:Option BN)≠some bm:=fun hc=>rb (Option.some.inj hc);have gm':h'.t.get bm=some (.map (mEs L1++(wx n.div n.key,e.val)::mEs L2)):=by rw[old' bm (by omega) hbe,gm,zlM,ea,eb];rfl
  rw[show L1.length=(mEs L1).length from(zxK L1).symm,zwi gm'];simp only[zaV,zdN,eadd,zcr];have G':Gr hB h':=⟨by omega,fun c hc=>(old' c (by omega) (fun hc'=>by grind)).trans (Gm.old c hc)⟩;refine Ev.some ⟨rfl,rfl,w'.put gm',G'.put hbm,by show bm.toNat<h'.n.toNat;omega,rfl,_,Zl.put M he (xh _ _ _) ?_ (b':=b') (by omega) hb' (fun x hx=>?_) (fun x hx hxe=>?_)⟩
  .rw[yN _ _ hb'];obtain⟨_,⟨h1,_⟩|⟨b2,h1,h2,_⟩⟩:=A'<;>grind
  .have:=w _ _ (M.row x hx).2.1
   grind
  .have l0:=w _ _ (M.row x hx).2.1;have l1:x.blk≠bm:=(M.row x hx).2.2.2;rw[yN _ _ l1,old' x.blk (by omega) (fun hc=>hxe (Option.some.inj hc).symm),om _ l1,Gs.old _ l0]
variable (K0:∀n:Zh,zaP C 58 [.s (.one .nils),.s (.one (.fn 74 [x7 n]))] (.s (.one (.bool false))))
 (K1:∀(q:List Zh) (n:Zh),q.length<=1000->zaP C 58 [.s (.one (.lst 4 (q.map x7))),.s (.one (.fn 74 [x7 n]))] (.s (.one (.bool (q.any (ovN n))))))
include K0 K1
theorem zDi{v31 v33 v35 v41 v43 v45 v47 v49 v51 v53 v55 v57 v59 v61 v63 v65 v67 v69 v75 v77 v79 v81 v83 v85 v87 v89 v93 v95 v97 v99 v101 v103 v105 v107 v109 v111 v113 v115 v117 v17 v119 v121 v123 v125 v127 v129 v131 v133 v135 v137 v139:Zb}{i:Nat}{p:List Zh}{n:Zh}{L:List Zj}{h:Za}{b1 bc:BN}{ys:List Zb}{d:List BN}(hi:i<=1000)(hp:p.length<=i)(w:HW h)(G:Gr hB h)(M:Zl hB.n.toNat h bm p L)(hbl:bm.toNat<h.n.toNat)
  (g1:h.t.get b1=some (.cells (cNt n) 0)) (gc:h.t.get bc=some (.cells [iC n.div,iC n.key] 0)) (hy:zG ys 79=iV (i:Int)):
  Ev (fun q=>zy4 (C q) q (.s (.one (.ptr bc 0))) h (.s (.one (.map bm))) (.s (.one (.ptr b1 0))) v31 v33 v35 v41 v43 v45 v47 v49 v51 v53 v55 v57 v59 v61 v63 v65 v67 v69 v75 v77 v79 v81 v83 v85 v87 v89 v93 v95 v97 v99 v101 v103 v105 v107 v109 v111 v113 v115 v117 v17 v119 v121 v123 v125 v127 v129 v131 v133 v135 v137 v139 ys d) (zmI hB bm (nE1 p n) i d p n):=by
 unfold zy4;simp only[zkb,gc,kLN,zFp,zuY];have me:=zuP (a:=n.div) (b:=n.key) M.map;rw[ziC]at me;simp only[me,zaV];have mk:zoz 74 [.s (.one (.ptr b1 0))] h=some (.s (.one (.fn 74 [(b1,0)])),h):=rfl;simp only[mk,zaV];have rf:Rep (fun b=>b.toNat<h.n.toNat) h (.fn 74 [(b1,0)]) (.fn 74 [x7 n]):=zua (w _ _ g1) g1;have ca:Ev (fun q=>C q (.inl 58) [.s (((L.find? (Zj.is n.div n.key)).map Zj.val).getD (.one .nils)),.s (.one (.fn 74 [(b1,0)]))] h) (fun r=>HW r.2/\Gr h r.2/\r.1=.s (.one (.bool ((atC p n.div n.key).any (ovN n))))):=by
  have fin:∀{v:Zb} {x:Bool} {fz:BN->Prop} {h':Za},RepA fz h' v (.s (.one (.bool x)))->v=.s (.one (.bool x)):=fun {v x fz h'} r=>by
   obtain⟨u,rfl,r⟩:=RepA.inv r;cases u with
   |one c=>cases r;rfl
   |agg l=>trivial
  rcases zdR (Zj.is n.div n.key) L with⟨hf,hno⟩|⟨L1,e,L2,rfl,hno,he,hf⟩
  .rw[hf,M.none hno];exact(K0 n (fun b=>b.toNat<h.n.toNat) h [.s (.one .nils),.s (.one (.fn 74 [(b1,0)]))] w (fun _ hb=>hb) ⟨Rep.nils,rf,trivial⟩).mono fun r hr=>⟨hr.1,hr.2.1,fin hr.2.2⟩
  .rw[hf];obtain⟨rn,rg,_,_⟩:=M.row e (Yzr _ (Yzf ..));obtain⟨ea,eb⟩:=zse he;rw[ea,eb];have rr:=zt8 (fz:=fun b=>b.toNat<h.n.toNat) (atC p e.a e.b) (w _ _ rg) rg;rw[<-rn]at rr;exact(K1 (atC p e.a e.b) n (by grind[atC]) (fun b=>b.toNat<h.n.toNat) h [.s (.one (.slc e.blk 0 e.n 0 false)),.s (.one (.fn 74 [(b1,0)]))] w (fun _ hb=>hb) ⟨rr,rf,trivial⟩).mono fun r hr=>⟨hr.1,hr.2.1,fin hr.2.2⟩
 refine Ev.bindR (ca.mono fun r hr=>?_);obtain⟨v,h'⟩:=r;obtain⟨w',G',e'⟩:=hr
 dsimp only at w' G' e' ⊢
 subst e';by_cases hc:(atC p n.div n.key).any (ovN n)=true
 .simp only[hc,ztz];have er:nE1 p n=14:=Yzc hc;rw[er];exact Ev.some ⟨by decide,rfl,w',G.trans G',rfl⟩
 .have hc':(atC p n.div n.key).any (ovN n)=false:=by grind
  simp only[hc',zyl];have er:nE1 p n=0:=Yza hc;rw[er];exact zDj hbm hi hp w' (G.trans G') (zdJ M w G') (by have:=G'.le;omega) (G'.get w g1) (G'.get w gc) hy
theorem zDh{v31 v33 v35 v41 v43 v45 v47 v49 v51 v53 v55 v57 v59 v61 v63 v65 v67 v69 v75 v77 v79 v81 v83 v85 v87 v89 v93 v95 v97 v99 v101 v103 v105 v107 v109 v111 v113 v115 v117 v17 v119 v121 v123 v125 v127 v129:Zb}{i:Nat}{p:List Zh}{n:Zh}{L:List Zj}{h:Za}{b1 bc:BN}{ys:List Zb}{d:List BN}(hi:i<=1000)(hp:p.length<=i)(w:HW h)(G:Gr hB h)(M:Zl hB.n.toNat h bm p L)(hbl:bm.toNat<h.n.toNat)
  (g1:h.t.get b1=some (.cells (cNt n) 0)) (gc:h.t.get bc=some (.cells [iC n.div,iC n.key] 0)) (hy:zG ys 79=iV (i:Int)):
  Ev (fun q=>zy3 (C q) q (.s (.one (.ptr b1 0))) h v31 v33 v35 v41 v43 v45 v47 v49 v51 v53 v55 v57 v59 v61 v63 v65 v67 v69 (.s (.one (.ptr bc 0))) v75 v77 v79 v81 v83 v85 v87 v89 v93 v95 v97 v99 v101 v103 v105 v107 v109 v111 v113 v115 v117 v17 v119 v121 v123 v125 v127 v129 ys d (.s (.one (.map bm)))) (zmI hB bm (nE2 p n) i d p n):=by
 unfold zy3;have e4:=ga4 (iC n.st) (iC n.fin) (iC n.div) (iC n.key);simp only[zfS,zbh,g1,kL1,Yzi,cNt,e4.1,e4.2.1,e4.2.2.1,e4.2.2.2,zcr,zdN,zFg];by_cases hc:n.fin<=n.st
 .have l:leI n.fin n.st=true:=by grind[zeo]
  simp only[l,ztz];rw[show nE2 p n=6 from Yzc hc];exact Ev.some ⟨by decide,rfl,w,G,rfl⟩
 .have l:leI n.fin n.st=false:=by grind[zeo]
  simp only[l,zyl];rw[show nE2 p n=nE1 p n from Yza hc];exact zDi hbm K0 K1 hi hp w G M hbl g1 gc hy
theorem zDg{v31 v33 v35 v41 v43 v45 v47 v49 v51 v53 v55 v57 v59 v61 v63 v65 v67 v69 v75 v77 v79 v81 v83 v85 v87 v89 v93 v95 v97 v99 v101 v103 v105 v107 v109 v111 v113:Zb}{first last:Int}{i:Nat}{p:List Zh}{n:Zh}{L:List Zj}{h:Za}{b1 bc:BN}{ys:List Zb}{d:List BN}(hi:i<=1000)(hp:p.length<=i)(w:HW h)(G:Gr hB h)(M:Zl hB.n.toNat h bm p L)(hbl:bm.toNat<h.n.toNat)
  (g1:h.t.get b1=some (.cells (cNt n) 0)) (gc:h.t.get bc=some (.cells [iC n.div,iC n.key] 0)) (hy:zG ys 79=iV (i:Int)):
  Ev (fun q=>zy2 (C q) q (.s (.one (.ptr b1 0))) h (iV first) (iV last) v31 v33 v35 v41 v43 v45 v47 v49 v51 v53 v55 v57 v59 v61 v63 v65 v67 v69 (.s (.one (.ptr bc 0))) v75 v77 v79 v81 v83 v85 v87 v89 v93 v95 v97 v99 v101 v103 v105 v107 v109 v111 v113 ys d (.s (.one (.map bm)))) (zmI hB bm (nE3 first last p n) i d p n):=by
 unfold zy2;have e4:=ga4 (iC n.st) (iC n.fin) (iC n.div) (iC n.key);simp only[zfS,zbh,g1,kL1,Yzi,cNt,e4.1,e4.2.1,e4.2.2.1,e4.2.2.2,zcr,zdN,zBc];by_cases hc:n.st<first
 .have l:ltI n.st first=true:=by grind[x4]
  simp only[l,zEe,zaV,zq0,ztz];rw[show nE3 first last p n=3 from Yzc (Or.inl hc)];exact Ev.some ⟨by decide,rfl,w,G,rfl⟩
 .have l:ltI n.st first=false:=by grind[x4]
  simp only[l,zEf,zq1,zaV,zfS,zbh,g1,kL1,Yzi,cNt,e4.1,e4.2.1,e4.2.2.1,e4.2.2.2,zcr,zdN,zD6];by_cases hc2:last<n.fin
  .have l2:ltI last n.fin=true:=by grind[x4]
   simp only[l2,ztz];rw[show nE3 first last p n=3 from Yzc (Or.inr hc2)];exact Ev.some ⟨by decide,rfl,w,G,rfl⟩
  .have l2:ltI last n.fin=false:=by grind[x4]
   simp only[l2,zyl];rw[show nE3 first last p n=nE2 p n from Yza (fun h=>h.elim hc hc2)];exact zDh hbm K0 K1 hi hp w G M hbl g1 gc hy
variable (wB:HW hB) {c0 c1 c2 c3 e1:Zc} {b0:BN} {ks:List (Int×Int)} {ns:List Zh}
 (B0:hB.t.get b0=some (.cells [c0,c1,c2,c3] 0)) (DA:zkZ hB c2 ks)
include wB B0 DA
theorem zDf{v31 v33 v35 v41 v43 v45 v47 v49 v51 v53 v55 v57 v59:Zb}{first last:Int}{k:Int×Int}{i:Nat}{p:List Zh}{n:Zh}{L:List Zj}{h:Za}{b1:BN}{ys:List Zb}{d:List BN}(hi:i<=1000)(hp:p.length<=i)(w:HW h)(G:Gr hB h)(M:Zl hB.n.toNat h bm p L)(hbl:bm.toNat<h.n.toNat)
  (g1:h.t.get b1=some (.cells (cNt n) 0)) (hy:zG ys 79=iV (i:Int)) (h0:0<=n.div) (hk:ks[n.div.toNat]? = some k):
  Ev (fun q=>zy1 (C q) q (.s (.one (.ptr b1 0))) h (.s (.one (.ptr b0 0))) v31 v33 v35 v41 v43 v45 v47 v49 v51 v53 v55 v57 v59 ys d (iV first) (iV last) (.s (.one (.map bm)))) (zmI hB bm (nE4 k first last p n) i d p n):=by
 obtain⟨_,rfl⟩|⟨bD,offD,capD,exD,oD,cD,rfl,gD,rD,pD⟩:=DA
 .cases hk
 have kl:=(Lz0.1 hk).1;unfold zy1;have e4:=ga4 (iC n.st) (iC n.fin) (iC n.div) (iC n.key);simp only[zfS,zbh,g1,kL1,Yzi,cNt,e4.1,e4.2.1,e4.2.2.1,e4.2.2.2,zcr,zdN];have bu:zjt [.int .i64 (.ofNat 0),.int .i64 (.ofNat 0)] [(0,1,iV n.div),(1,1,iV n.key)] h=some (.s (.agg [iC n.div,iC n.key]),h):=rfl;simp only[bu,zaV,zsb];refine Ev.new w fun bc hc ebc enc gc wc Gc=>?_;refine Ev.store gc rfl rfl ?_;have w2:=wc.put (o':=.cells [iC n.div,iC n.key] 0) gc;have G2:Gr h (hc.put bc (.cells [iC n.div,iC n.key] 0)):=Gc.put (by omega);have g2:(hc.put bc (.cells [iC n.div,iC n.key] 0)).t.get bc=some (.cells [iC n.div,iC n.key] 0):=xh _ _ _;have en2:(hc.put bc (.cells [iC n.div,iC n.key] 0)).n.toNat=h.n.toNat+1:=enc;generalize hc.put bc (.cells [iC n.div,iC n.key] 0)=h2 at w2 G2 g2 en2;have B2:=(G.trans G2).get wB B0;have D2:=(G.trans G2).get wB gD;have n2:=G2.get w g1;have e5:=ga4 c0 c1 (.slc bD offD ks.length capD exD) c3;have ix:zvH 5 (.s (.one (.slc bD offD ks.length capD exD))) (iV n.div) h2=some (.s (.one (.ptr bD (offD+n.div.toNat*5))),h2):=by
  obtain⟨m,hm⟩:∃m:Nat,n.div=(m:Int):=⟨n.div.toNat,by omega⟩;rw[hm]at kl ⊢;show (bif Nat.ble (Nat.succ m) ks.length then some (Zb.s (.one (.ptr bD (offD+m*5))),h2) else none)=_
  grind[Yzg]
 simp only[zfS,zbh,B2,n2,kL1,Yzi,cNt,e4.1,e4.2.1,e4.2.2.1,e4.2.2.2,e5.2.2.1,zcr,ix,zaV,zkb];have ld:loadAt (some 2) h2 (offD+n.div.toNat*5+2) (h2.t.get bD)=some (.s (.agg [iC k.1,iC k.2]),h2):=by rw[D2,Yz7,zlq h2 (zef rD (off:=n.div.toNat*5+2) (m:=2) (by omega)) (Or.inl (by decide)),pD _ _ hk]
 simp only[ld,zaV,zsb];refine Ev.new w2 fun bk hk' ebk enk gk wk Gk=>?_;refine Ev.store gk rfl rfl ?_;have w3:=wk.put (o':=.cells [iC k.1,iC k.2] 0) gk;have G3:Gr h2 (hk'.put bk (.cells [iC k.1,iC k.2] 0)):=Gk.put (by omega);have g3:(hk'.put bk (.cells [iC k.1,iC k.2] 0)).t.get bk=some (.cells [iC k.1,iC k.2] 0):=xh _ _ _;have en3:(hk'.put bk (.cells [iC k.1,iC k.2] 0)).n.toNat=h2.n.toNat+1:=enk;generalize hk'.put bk (.cells [iC k.1,iC k.2] 0)=h3 at w3 G3 g3 en3;have n3:=G3.get w2 n2;have c3':=G3.get w2 g2;have e6:=ga2 (iC k.1) (iC k.2);have Gall:=G2.trans G3;simp only[zfS,zbh,n3,g3,kL1,Yzi,cNt,e4.1,e4.2.1,e4.2.2.1,e4.2.2.2,e6.1,e6.2,zcr,zdN,zBc];by_cases hx:n.key<k.1
 .have l:ltI n.key k.1=true:=by grind[x4]
  simp only[l,zEe,zaV,zq0,ztz];rw[show nE4 k first last p n=23 from Yzc (Or.inl hx)];exact Ev.some ⟨by decide,rfl,w3,G.trans Gall,rfl⟩
 .have l:ltI n.key k.1=false:=by grind[x4]
  simp only[l,zEf,zq1,zaV,zfS,zbh,n3,g3,kL1,Yzi,cNt,e4.1,e4.2.1,e4.2.2.1,e4.2.2.2,e6.1,e6.2,zcr,zdN,zD6];by_cases hx2:k.2<n.key
  .have l2:ltI k.2 n.key=true:=by grind[x4]
   simp only[l2,ztz];rw[show nE4 k first last p n=23 from Yzc (Or.inr hx2)];exact Ev.some ⟨by decide,rfl,w3,G.trans Gall,rfl⟩
  .have l2:ltI k.2 n.key=false:=by grind[x4]
   simp only[l2,zyl];rw[show nE4 k first last p n=nE3 first last p n from Yza (fun h=>h.elim hx hx2)];exact zDg hbm K0 K1 hi hp w3 (G.trans Gall) (zdJ M w Gall) (by omega) n3 c3' hy
variable (NA:zjn hB e1 ns) (hns:ns.length<=1000)
include NA hns
theorem zDe{v31:Zb}{first last:Int}{i:Nat}{p:List Zh}{n:Zh}{L:List Zj}{h:Za}{ys:List Zb}{d:List BN}(hn:ns[i]? = some n)(hp:p.length<=i)(w:HW h)(G:Gr hB h)(M:Zl hB.n.toNat h bm p L)(hbl:bm.toNat<h.n.toNat)(hy:zG ys 79=iV (i:Int)):
  Ev (fun q=>zy0 (C q) q (.s (.one e1)) ys h (.s (.one (.ptr b0 0))) v31 d (iV first) (iV last) (.s (.one (.map bm)))) (zmI hB bm (zb1 ks first last p n) i d p n):=by
 have hi:=(Lz0.1 hn).1;have LD:=fun h=>zuT DA h;obtain⟨_,rfl⟩|⟨bN,offN,capN,exN,oN,rfl,gN,rN⟩:=NA
 .cases hn
 have gN':=G.get wB gN;have ld:loadAt (some 4) h (offN+i*4) (h.t.get bN)=some (.s (.agg (cNt n)),h):=by rw[gN',zlq h (zef rN (off:=i*4) (m:=4) (by omega)) (Or.inl (by decide)),zst ns i n hn]
 have B0':=G.get wB B0;have ix:zvH 4 (.s (.one (.slc bN offN ns.length capN exN))) (iV (i:Int)) h=some (.s (.one (.ptr bN (offN+i*4))),h):=by
  show (bif Nat.ble (Nat.succ i) ns.length then some (Zb.s (.one (.ptr bN (offN+i*4))),h) else none)=_
  grind[Yzg]
 unfold zy0;simp only[hy,ix,zaV,zkb,ld,zsb];refine Ev.new w fun b1 h1 eb1 en1 g1 w1 G1=>?_;refine Ev.store g1 rfl rfl ?_;have w2:=w1.put (o':=.cells [iC n.st,iC n.fin,iC n.div,iC n.key] 0) g1;have G2:Gr h (h1.put b1 (.cells [iC n.st,iC n.fin,iC n.div,iC n.key] 0)):=G1.put (by omega);have g2:(h1.put b1 (.cells [iC n.st,iC n.fin,iC n.div,iC n.key] 0)).t.get b1=some (.cells (cNt n) 0):=xh _ _ _;have en2:(h1.put b1 (.cells [iC n.st,iC n.fin,iC n.div,iC n.key] 0)).n.toNat=h.n.toNat+1:=en1;generalize h1.put b1 (.cells [iC n.st,iC n.fin,iC n.div,iC n.key] 0)=h2 at w2 G2 g2 en2;have B2:=G2.get w B0';have e4:=ga4 (iC n.st) (iC n.fin) (iC n.div) (iC n.key);simp only[zfS,zbh,g2,kL1,Yzi,cNt,e4.1,e4.2.1,e4.2.2.1,e4.2.2.2,zcr,zdN,zBc];by_cases hd0:n.div<0
 .have lt:ltI n.div (.ofNat 0)=true:=by grind[x4]
  simp only[lt,zEe,zaV,zq0,ztz];rw[show zb1 ks first last p n=10 by simp_all[zb1]];exact Ev.some ⟨by decide,rfl,w2,G.trans G2,rfl⟩
 have lt:ltI n.div (.ofNat 0)=false:=by grind[x4]
 have e5:=ga4 c0 c1 c2 c3;simp only[lt,zEf,zq1,zaV,zfS,zbh,g2,B2,kL1,Yzi,cNt,e4.1,e4.2.1,e4.2.2.1,e4.2.2.2,e5.2.2.1,zcr,zdN,LD,zFg];by_cases hd1:(ks.length:Int)<=n.div
 .have le:leI (ks.length:Int) n.div=true:=by grind[zeo]
  simp only[le,ztz];rw[show zb1 ks first last p n=10 by simp_all[zb1]];exact Ev.some ⟨by decide,rfl,w2,G.trans G2,rfl⟩
 have le:leI (ks.length:Int) n.div=false:=by grind[zeo]
 simp only[le,zyl];obtain⟨k,hk⟩:∃k,ks[n.div.toNat]? = some k:=⟨_,Lz5 (by omega)⟩;rw[show zb1 ks first last p n=nE4 k first last p n by unfold zb1;rw[Yza (fun h=>h.elim hd0 hd1),hk];rfl];exact zDf hbm K0 K1 wB B0 DA (by omega) hp w2 (G.trans G2) (zdJ M w G2) (by omega) g2 hy (by omega) hk
theorem zw7{first last:Int}{i:Nat}{p:List Zh}{n:Zh}{L:List Zj}{h:Za}{ys:List Zb}{d:List BN}(hn:ns[i]? = some n)(hp:p.length<=i)(w:HW h)(G:Gr hB h)(M:Zl hB.n.toNat h bm p L)(hbl:bm.toNat<h.n.toNat)(hy:zG ys 79=iV (i:Int)):
  Ev (fun q=>zte (C q) q (iV (ns.length:Int)) (.s (.one e1)) (.s (.one (.ptr b0 0))) (iV first) (iV last) (.s (.one (.map bm))) ys h d) (zmI hB bm (zb1 ks first last p n) i d p n):=by
 have hi:=(Lz0.1 hn).1;have lt0:ltI (i:Int) (ns.length:Int)=true:=by grind[x4]
 unfold zte;rw[hy];simp only[zdN,zBc,zcr,lt0,ztz];exact zDe hbm K0 K1 wB B0 DA NA hns hn hp w G M hbl hy
def zaS(ks:List (Int×Int))(first last:Int):List Zh->List Zh->Int
 |_,[]=>0
 |p,n::q=>if zb1 ks first last p n=0 then zaS ks first last (p++[n]) q else zb1 ks first last p n
def zws(hB:Za)(E:Int)(r:Zf×List Zb×Za×List BN):Prop:=match r.1 with
 | .exit id=>id=0/\E=0/\HW r.2.2.1/\Gr hB r.2.2.1/\r.2.2.2=[]
 | .ret=>zG r.2.1 15=iV E/\HW r.2.2.1/\Gr hB r.2.2.1/\r.2.2.2=[]
 | .normal=>False
theorem zAT{first last:Int}{L:List Zj}{h:Za}{ys:List Zb}(w:HW h)(G:Gr hB h)(M:Zl hB.n.toNat h bm [] L)(hbl:bm.toNat<h.n.toNat)(hy:zG ys 79=iV ((0:Nat):Int)):
  Ev (fun q=>zc4 (zte (C q) q (iV (ns.length:Int)) (.s (.one e1)) (.s (.one (.ptr b0 0))) (iV first) (iV last) (.s (.one (.map bm)))) q ys h []) (zws hB (zaS ks first last [] ns)):=by
 refine Ev.loop (Q:=zws hB (zaS ks first last [] ns)) (I:=fun k ys h d=>∃p q L,ns=p++q/\k=q.length/\zG ys 79=iV ((p.length:Nat):Int)/\HW h/\Gr hB h/\bm.toNat<h.n.toNat/\Zl hB.n.toNat h bm p L/\d=[]/\zaS ks first last [] ns=zaS ks first last p q) (fun k ys h d hI=>?_) ns.length ys h [] ⟨[],ns,L,rfl,rfl,hy,w,G,hbl,M,rfl,rfl⟩;obtain⟨p,q,L,e,ek,hy,w,G,hbl,M,rfl,eA⟩:=hI;cases q with
 |nil=>
  have ep:ns.length=p.length:=by rw[e,YzP]
  have lt0:ltI (p.length:Int) (ns.length:Int)=false:=by grind[x4]
  unfold zte;rw[hy];simp only[zdN,zBc,zcr,lt0,zyl];exact Ev.some ⟨rfl,eA,w,G,rfl⟩
 |cons n q=>
  have hn:ns[p.length]? = some n:=by grind
  refine (zw7 hbm K0 K1 wB B0 DA NA hns (first:=first) (last:=last) hn (LzB _) w G M hbl hy).mono fun r hr=>?_;obtain⟨e,y,h',d'⟩:=r;cases e with
  |normal=>
   obtain⟨h1,h2,h3,h4,h5,h6,L',h7⟩:=hr;refine⟨q.length,by grind,p++[n],q,L',by grind,rfl,?_,h3,h4,h5,h7,h6,?_⟩
   .grind
   .rw[eA];exact Yzc h1
  |ret=>obtain⟨h1,h2,h3,h4,h5⟩:=hr;refine⟨?_,h3,h4,h5⟩;rw[eA,show zaS ks first last p (n::q)=zb1 ks first last p n from Yza h1];exact h2
  |exit id=>trivial
end
theorem zG9{C:Nat->zh}{h:Za}(w:HW h){c0 c1 c2 c3 x0 x1 x2:Zc}{ks:List (Int×Int)}{ns:List Zh}{first last:Int}(DA:zkZ h c2 ks)(NA:zjn h x1 ns)
  (K0:∀n:Zh,zaP C 58 [.s (.one .nils),.s (.one (.fn 74 [x7 n]))] (.s (.one (.bool false))))
  (K1:∀(q:List Zh) (n:Zh),q.length<=1000->zaP C 58 [.s (.one (.lst 4 (q.map x7))),.s (.one (.fn 74 [x7 n]))] (.s (.one (.bool (q.any (ovN n))))))
  (hE:∀h':Za,HW h'->Gr h h'->Ev (fun q=>C q (.inl 73) [.s (.agg [x0,x1,x2])] h') (fun r=>HW r.2/\Gr h' r.2/\r.1=.tup [.one (iC first),.one (iC last)])):
  Ev (fun q=>M46 (C q) q (.s (.agg [c0,c1,c2,c3])) (.s (.agg [x0,x1,x2])) h) (fun r=>HW r.2/\Gr h r.2/\r.1=iV (if 1000<ns.length then 4 else zaS ks first last [] ns)):=by
 unfold M46;rw[zFh];refine Ev.new w fun b0 h1 eb0 en1 g0 w1 G1=>?_;rw[zFh];refine Ev.new w1 fun ba h2 eba en2 ga w2 G2=>?_;have lx:∀h:Za,zgB (.s (.one x1)) h=some (iV (ns.length:Int),h):=by
  intro h;obtain⟨rfl,rfl⟩|⟨b,off,cap,ex,o,rfl,_,_⟩:=NA
  .rfl
  .rfl
 have e3:vC [x0,x1,x2] 1=some x1:=rfl;have c3':cut 3 [x0,x1,x2] 0=some [x0,x1,x2]:=rfl;simp only[zfS,zbh,zkb,ga,kL1,kLN,Yzi,SVal.cells,e3,c3',zcr,zuY,lx,zaV,zdN,zD6];by_cases hl:1000<ns.length
 .have lt:ltI (.ofNat 1000) (ns.length:Int)=true:=by grind[x4]
  simp only[lt,ztz];rw[Yzc hl];exact Ev.some ⟨w2,G1.trans G2,rfl⟩
 .have lt:ltI (.ofNat 1000) (ns.length:Int)=false:=by grind[x4]
  simp only[lt,zyl];rw[Yza hl];refine Ev.bindR ((hE h2 w2 (G1.trans G2)).mono fun r hr=>?_);obtain⟨v,h3⟩:=r;obtain⟨w3,G3,e⟩:=hr
  dsimp only at w3 G3 e ⊢
  subst e;simp only[zEh,zEg];have mm:zp6 h3=zcZ h3 (.map []) (fun b=>.map b):=rfl;rw[mm];refine Ev.new w3 fun bm h4 ebm en4 gm w4 G4=>?_;have ga4:=(G3.trans G4).get w2 ga;simp only[zfS,zbh,ga4,kL1,Yzi,e3,zcr,lx,zaV,SVal.cells];have g13:=(G2.trans G3);have B0:=g13.get w1 g0;have DA3:zkZ h3 c2 ks:=by
   obtain h|⟨b,off,cap,ex,o,cs,h1,h2,h3⟩:=DA
   .exact .inl h
   .exact .inr ⟨b,off,cap,ex,o,cs,h1,(G1.trans g13).get w h2,h3⟩
  have NA3:zjn h3 x1 ns:=by
   obtain h|⟨b,off,cap,ex,o,h1,h2,h3⟩:=NA
   .exact .inl h
   .exact .inr ⟨b,off,cap,ex,o,h1,(G1.trans g13).get w h2,h3⟩
  have hbm:h3.n.toNat<=bm.toNat:=by omega
  refine Ev.bindX ((zAT (hbm:=hbm) K0 K1 w3 B0 DA3 NA3 (by omega) (first:=first) (last:=last) (L:=[]) w4 G4 ⟨gm,(fun _ h=>by cases h),.nil,.nil,(fun _ h=>by cases h)⟩ (by omega) rfl).mono fun r hr=>?_);obtain⟨e,y,h5,d5⟩:=r;cases e with
  |normal=>trivial
  |exit id=>obtain⟨rfl,h1,h2,h3',rfl⟩:=hr;rw[h1];exact Ev.some ⟨h2,(G1.trans g13).trans h3',rfl⟩
  |ret=>obtain⟨h1,h2,h3',rfl⟩:=hr;show Ev (fun n=>zb4 h5 (zdX (zqI (zG y 15)) (some []))) _;rw[h1];exact Ev.some ⟨h2,(G1.trans g13).trans h3',rfl⟩
end Go.Proofs.Tryz.Kn
end
section
namespace Go.Proofs.Tryz.Kn
open Go Go.CE Go.PE
def zgL:List DV->Option Zh
 | [.int .i64 a,.int .i64 b,.int .i64 c,.int .i64 d]=>some ⟨a,b,c,d⟩
 |_=>none
def ztB:List DV->Option (Int×Int)
 | [_,_,.int .i64 a,.int .i64 b,_]=>some (a,b)
 |_=>none
def zpV{α:Type}(f:List DV->Option α):List (List DV)->Option (List α)
 | []=>some []
 |x::xs=>match f x,zpV f xs with|some y,some ys=>some (y::ys)|_,_=>none
def ztA{α:Type}(n:Nat)(f:List DV->Option α):DV->Option (List α)
 | .nils=>some []
 | .lst st xs=>bif Nat.beq st n then zpV f xs else none
 |_=>none
def ztC:Option (List DV)->Option Int
 |some [.int .i64 a]=>some a
 |_=>none
def zml:DV->Option (Int×Int)
 | .lst st xs=>bif Nat.beq st 1&&Nat.ble xs.length 1000000 then(match ztC xs[0]?,ztC xs[xs.length-1]? with|some a,some b=>some (a,b)|_,_=>none) else none
 |_=>none
theorem zi6{α:Type}{f:List DV->Option α}:∀{xs:List (List DV)} {ys:List α},zpV f xs=some ys->ys.length=xs.length/\∀(i:Nat) (x:List DV),xs[i]? = some x->f x=ys[i]?
 | [],ys,h=>by cases h<;>grind
 |x::xs,ys,h=>by
  unfold zpV at h;split at h
  .rename_i y ys' h1 h2;cases h;obtain⟨g1,g2⟩:=zi6 h2
   grind
  .cases h
theorem zsP{x:List DV}{n:Zh}(h:zgL x=some n):x=x7 n:=by
 unfold zgL at h;split at h
 .cases h;rfl
 .cases h
theorem zhA:∀q:List Zh,zpV zgL (q.map x7)=some q
 | []=>rfl
 |n::q=>by rw[Yzw];unfold zpV;rw[zhA q];rfl
theorem zqL{fz:BN->Prop}{h:Za}{c:Zc}{d:DV}{ns:List Zh}(R:Rep fz h c d)(e:ztA 4 zgL d=some ns):zjn h c ns:=by
 cases R with
 |nils=>cases e;exact .inl ⟨rfl,rfl⟩
 | @lst b o off cap ex st xs cs hb hg hc ha h1 h2=>
  have e:(bif Nat.beq st 4 then zpV zgL xs else none)=some ns:=e;cases hs:Nat.beq st 4 with
  |false=>grind
  |true=>
   rw[hs]at e;cases Lz1 hs;obtain⟨e1,e2⟩:=zi6 (show zpV zgL xs=some ns from e);refine .inr ⟨b,off,cap,ex,o,by rw[e1],hg,?_⟩;rw[e1,ha]
   congr 1
   have hl:=zeg ha;refine Yz3 fun m=>?_;by_cases hm:m<xs.length*4
   .obtain⟨i,j,hj,rfl⟩:∃i j,j<4/\m=i*4+j:=⟨m / 4,m % 4,Yzn _ (by decide),by omega⟩;obtain⟨x,hx⟩:∃x,xs[i]? = some x:=⟨_,Lz5 (by omega)⟩;obtain⟨c,hc'⟩:∃c,cs[i*4+j]? = some c:=⟨_,Lz5 (by omega)⟩;obtain⟨n,hn⟩:∃n,ns[i]? = some n:=⟨_,Lz5 (by omega)⟩;have hxe:=zsP ((e2 i x hx).trans hn);subst hxe;rw[zaz ns i j n hj hn,hc'];have R:=fun d hd=>h2 i _ j c d hx hc' hd;rcases (show j=0\/j=1\/j=2\/j=3 by omega) with rfl|rfl|rfl|rfl
    .cases R _ rfl;rfl
    .cases R _ rfl;rfl
    .cases R _ rfl;rfl
    .cases R _ rfl;rfl
   .grind[zf6]
 |_=>cases e
theorem zvm{x:List DV}{k:Int×Int}(h:ztB x=some k):∃a b c,x=[a,b,.int .i64 k.1,.int .i64 k.2,c]:=by
 unfold ztB at h
 grind
theorem zt9{fz:BN->Prop}{h:Za}{c:Zc}{d:DV}{ks:List (Int×Int)}(R:Rep fz h c d)(e:ztA 5 ztB d=some ks):zkZ h c ks:=by
 cases R with
 |nils=>cases e;exact .inl ⟨rfl,rfl⟩
 | @lst b o off cap ex st xs cs hb hg hc ha h1 h2=>
  have e:(bif Nat.beq st 5 then zpV ztB xs else none)=some ks:=e;cases hs:Nat.beq st 5 with
  |false=>grind
  |true=>
   rw[hs]at e;cases Lz1 hs;obtain⟨e1,e2⟩:=zi6 (show zpV ztB xs=some ks from e);refine .inr ⟨b,off,cap,ex,o,cs,by rw[e1],hg,by grind,fun i k hk=>?_⟩;have hl:=zeg ha;have hi:i<xs.length:=by grind
   obtain⟨x,hx⟩:∃x,xs[i]? = some x:=⟨_,Lz5 hi⟩;obtain⟨a,b',c',rfl⟩:=zvm ((e2 i x hx).trans hk);have g:∀j,j<5->∃c,cs[i*5+j]? = some c:=fun j hj=>⟨_,Lz5 (by omega)⟩;obtain⟨u,hu⟩:=g 2 (by decide);obtain⟨v,hv⟩:=g 3 (by decide);have R2:=h2 i _ 2 u _ hx hu rfl;have R3:=h2 i _ 3 v _ hx hv rfl;cases R2;cases R3;refine Yz3 fun j=>?_
   grind
 |_=>cases e
def ntB:List DA->Option DA
 | [.s (.agg [_,_,d,_]),.s (.agg [x,n,_])]=>match ztA 5 ztB d,ztA 4 zgL n,zml x with
  |some ks,some ns,some (f,l)=>some (.s (.one (.int .i64 (if 1000<ns.length then 4 else zaS ks f l [] ns))))
  |_,_,_=>none
 |_=>none
theorem zAL{a0 a1 a2 a3 x0 x1 x2:DV}{ks:List (Int×Int)}{ns:List Zh}{f l:Int}(h1:ztA 5 ztB a2=some ks)(h2:ztA 4 zgL x1=some ns)(h3:zml x0=some (f,l)):
  ntB [.s (.agg [a0,a1,a2,a3]),.s (.agg [x0,x1,x2])]=some (.s (.one (.int .i64 (if 1000<ns.length then 4 else zaS ks f l [] ns)))):=by
 show (match ztA 5 ztB a2,ztA 4 zgL x1,zml x0 with
  |some ks,some ns,some (f,l)=>some (DA.s (.one (.int .i64 (if 1000<ns.length then 4 else zaS ks f l [] ns))))
  |_,_,_=>none)=_
 grind
theorem zAK{sums:List CE.Sum}{srt:Nat->Option Srt}(hs:sums.all (fun s=>!Nat.beq 46 s.g)=true)(hr:srt 46=none)
  (K0:∀n:Zh,zaP (fun n=>zI (zT Tryz.prog) (cFs (yI Tryz.prog)) sums srt n) 58 [.s (.one .nils),.s (.one (.fn 74 [x7 n]))] (.s (.one (.bool false))))
  (K1:∀(q:List Zh) (n:Zh),q.length<=1000->zaP (fun n=>zI (zT Tryz.prog) (cFs (yI Tryz.prog)) sums srt n) 58 [.s (.one (.lst 4 (q.map x7))),.s (.one (.fn 74 [x7 n]))] (.s (.one (.bool (q.any (ovN n))))))
  (KE:∀(x0 x1 x2:DV) (f l:Int),zml x0=some (f,l)->zaP (fun n=>zI (zT Tryz.prog) (cFs (yI Tryz.prog)) sums srt n) 73 [.s (.agg [x0,x1,x2])] (.tup [.one (.int .i64 f),.one (.int .i64 l)]))
  {args:List DA} {res:DA} (e:ntB args=some res):zaP (fun n=>zI (zT Tryz.prog) (cFs (yI Tryz.prog)) sums srt n) 46 args res:=by
 intro fz h vs hw hfz H;have hf:xG 46 vs h sums=none:=by
  clear H K0 K1 KE
  induction sums<;>simp_all[xG]
 refine Ev.call hr hf ?_;unfold ntB at e;split at e
 .rename_i a0 a1 a2 a3 x0 x1 x2;split at e
  .rename_i ks ns f l e1 e2 e3;cases e
   match vs,H with
   | [v0,v1],⟨H0,H1,_⟩=>
    obtain⟨w0,rfl,H0⟩:=H0.inv;obtain⟨w1,rfl,H1⟩:=H1.inv
    match w0,w1,H0,H1 with
    | .agg l0,.agg l1,H0,H1=>
     match l0,l1,H0,H1 with
     | [c0,c1,c2,c3],[y0,y1,y2],H0,H1=>
      have R2:Rep fz h c2 a2:=H0.2 2 _ _ rfl rfl;have Q1:Rep fz h y1 x1:=H1.2 1 _ _ rfl rfl;have t:=zG9 hw (zt9 R2 e1) (zqL Q1 e2) (c0:=c0) (c1:=c1) (c3:=c3) (x0:=y0) (x2:=y2) (first:=f) (last:=l) K0 K1 (fun h' w' G'=>by
       have fg:FG fz h fz h':=⟨fun _ _ hb _=>hb,fun b o hb ho=>G'.get hw ho⟩;refine (KE x0 x1 x2 f l e3 fz h' [.s (.agg [y0,y1,y2])] w' (fun b hb=>Lz9 (hfz b hb) G'.le) ⟨RepL.mono fg H1,trivial⟩).mono fun r hr=>⟨hr.1,hr.2.1,?_⟩;obtain⟨_,_,hr⟩:=hr;obtain⟨v,h''⟩:=r
       match v,hr with
       | .tup [.one _,.one _],hr=>obtain⟨ha,hb,_⟩:=hr;cases ha;cases hb;rfl)
      simp only[m46];exact t.mono fun r hr=>⟨hr.1,hr.2.1,by rw[hr.2.2];exact Rep.int _ _⟩
  .cases e
 .cases e
end Go.Proofs.Tryz.Kn
end
noncomputable section
namespace Go.Proofs.Tryz.Kn
open Go Go.CE Go.PE
def zyf:List CE.Sum:=[kSum48]
theorem zuX:∀s∈zyf,zd9 Tryz.prog s:=by
 intro s hs;simp only[zyf,Yya,Yyc,or_false]at hs;rcases hs with rfl
 .exact zr7
def bSums:List CE.Sum:=zyf++shSums
theorem zvr:∀s∈bSums,zd9 Tryz.prog s:=zvo zuX zqr
def bIds:List Nat:=[46,7,135,136,137,138,107]
theorem zta:bSums.all (fun s=>bIds.any (Nat.beq s.g))=true:=by kernel_rfl
theorem zgt{g:Nat}(h:bIds.any (Nat.beq g)=false):∀s∈bSums,Nat.beq g s.g=false:=by
 intro s hs;have h1:=YzJ.1 zta s hs;cases hb:Nat.beq g s.g with
 |false=>rfl
 |true=>rw[<-Lz1 hb,h]at h1;cases h1
theorem zai{g:Nat}(h:bIds.any (Nat.beq g)=false):bSums.all (fun s=>!Nat.beq g s.g)=true:=
 YzJ.2 fun s hs=>by rw[zgt h s hs];rfl
theorem zmT:∀g,zmU g=true->∀s∈bSums,Nat.beq g s.g=false:=by
 intro g hg;refine zgt ?_;unfold zmU at hg;split at hg
 .rfl
 .rfl
 .rfl
 .rfl
 .rfl
 .rfl
 .rfl
 .rfl
 .rfl
 .rfl
 .rfl
 .rfl
 .rfl
 .cases hg
theorem zqa:∀g,zmU g=true->Nat.ble zk4 g=false:=by
 intro g hg;unfold zmU at hg;split at hg
 .rfl
 .rfl
 .rfl
 .rfl
 .rfl
 .rfl
 .rfl
 .rfl
 .rfl
 .rfl
 .rfl
 .rfl
 .rfl
 .cases hg
theorem zwQ:∀g t,redI.s g=some t->zvv prog g t:=by intro g t e;cases e
def D0(k:Nat):Orc:=deep prog bSums (fun _ _=>none) anT zmU zCD redI 6 k
theorem zy9(k:Nat):zaj (D0 k) (fun n=>zI (zT prog) (cFs (yI prog)) bSums redI.s n):=zi5 zvR zmT zqa (fun _ _ _ e=>by cases e) k
theorem E58(k:Nat)(a0 a1:DV):D0 (k+1) 58 [S1 a0,S1 a1]=P58 (D0 k) a0 a1:=(zbr rfl (zai rfl) rfl).trans (p58 ..)
theorem E73(k:Nat)(a0_0 a0_1 a0_2:DV):D0 (k+1) 73 [SA [a0_0,a0_1,a0_2]]=P73 (D0 k) a0_0 a0_1 a0_2:=(zbr rfl (zai rfl) rfl).trans (p73 ..)
theorem E74(k:Nat)(a0_0 a0_1 a0_2 a0_3 c0_0 c0_1 c0_2 c0_3:DV):D0 (k+1) 74 [SA [a0_0,a0_1,a0_2,a0_3],S1 (.fp [c0_0,c0_1,c0_2,c0_3] 0)]=P74 (D0 k) a0_0 a0_1 a0_2 a0_3 c0_0 c0_1 c0_2 c0_3:=(zbr rfl (zai rfl) rfl).trans (p74 ..)
theorem E84(k:Nat)(a0 a1:DV):D0 (k+1) 84 [S1 a0,S1 a1]=P84 (D0 k) a0 a1:=(zbr rfl (zai rfl) rfl).trans (p84 ..)
end Go.Proofs.Tryz.Kn
end
section
namespace Go.Proofs.Tryz.Kn
open Go Go.CE Go.PE
theorem e74(k:Nat)(m n:Zh):D0 (k+1) 74 [SA (x7 m),S1 (.fp (x7 n) 0)]=some (S1 (Bo (ovN n m))):=by grind[x7,E74,P74,ovN,zi,zb,zm]
theorem zwp(O:Orc)(g:Nat)(n:List DV)(x:DA):zjr O (.fn g [n]) [x]=O g [x,S1 (.fp n 0)]:=rfl
def zpc(p:Zh->Bool):List Zh->Nat->Option Nat
 | [],_=>none
 |x::l,i=>if p x then some i else zpc p l (i+1)
theorem zfG(p:Zh->Bool):∀(l:List Zh) (i:Nat),(zpc p l i).isSome=l.any p
 | [],_=>rfl
 |x::l,i=>by
  unfold zpc;rw[List.any_cons];cases hx:p x with
  |true=>rfl
  |false=>exact zfG p l (i+1)
def zv8:Option Nat->PX
 |some i=>(.ret,[I6 (i:Int)],[])
 |none=>(.exit 0,[],[])
theorem f84(k:Nat)(n:Zh)(l:Sl Zh)(hl:l.els.length<=9223372036854775806):∀(r:List Zh) (i:Nat),l.els.drop i=r->
  zS (zjo (D0 (k+1)) (I6 (l.els.length:Int)) (enL 4 x7 l) (.fn 74 [x7 n])) [I6 (i:Int)] []=some (zv8 (zpc (ovN n) r i)):=by
 intro r
 induction r with
 |nil=>
  intro i h;refine zr ?_
  grind[zjo,zA,zi,zb,wq,z6,zm]
 |cons x r ih=>
  intro i h;have hlt:=yn h;have ea:zc .add (I6 (i:Int)) (I6 1)=some (I6 ((i+1:Nat):Int)):=yG;have cx:zjr (D0 (k+1)) (.fn 74 [x7 n]) [SA (x7 x)]=some (S1 (Bo (ovN n x))):=(zwp ..).trans (e74 k x n);have body:zjo (D0 (k+1)) (I6 (l.els.length:Int)) (enL 4 x7 l) (.fn 74 [x7 n]) [I6 (i:Int)] []=some (if ovN n x then(.ret,[I6 (i:Int)],[]) else(.normal,[I6 ((i+1:Nat):Int)],[])):=by
   have en:SA [atD (x7 x) 0,atD (x7 x) 1,atD (x7 x) 2,atD (x7 x) 3]=SA (x7 x):=rfl;simp only[zjo,zA,zi,zb,zbN hlt,zm,if_true,zX h,en,cx,zR,ea]
   grind
  unfold zpc;cases hx:ovN n x with
  |true=>rw[hx,Yzc rfl]at body;rw[zz body,Yzc rfl];rfl
  |false=>rw[hx,Yza (by decide)]at body;rw[zE body,ih (i+1) (zJ h),Yza (by decide)]
theorem e84(k:Nat)(n:Zh)(l:Sl Zh)(hl:l.els.length<=9223372036854775806):D0 (k+2) 84 [S1 (enL 4 x7 l),S1 (.fn 74 [x7 n])]=some (S1 (I6 (match zpc (ovN n) l.els 0 with|some i=>(i:Int)|none=>-1))):=by rw[E84];unfold P84;have:=f84 k n l hl l.els 0 rfl;rw[show (I6 ((0:Nat):Int):DV)=I6 0 from rfl]at this;rw[zg,zb,this];cases zpc (ovN n) l.els 0<;>rfl
theorem e58(k:Nat)(n:Zh)(l:Sl Zh)(hl:l.els.length<=9223372036854775806):D0 (k+3) 58 [S1 (enL 4 x7 l),S1 (.fn 74 [x7 n])]=some (S1 (Bo (l.els.any (ovN n)))):=by rw[E58];unfold P58;rw[e84 k n l hl,zR,xD,zb,<-zfG (ovN n) l.els 0];cases zpc (ovN n) l.els 0<;>simp_all
theorem zod{x:Option (List DV)}{a:Int}(h:ztC x=some a):x=some [I6 a]:=by
 unfold ztC at h
 grind
theorem e73(k:Nat)(x0 x1 x2:DV)(f l:Int)(h:zml x0=some (f,l)):D0 (k+1) 73 [SA [x0,x1,x2]]=some (.tup [.one (I6 f),.one (I6 l)]):=by
 unfold zml at h;split at h
 .rename_i st xs;cases hs:Nat.beq st 1&&Nat.ble xs.length 1000000 with
  |false=>grind
  |true=>
   rw[hs]at h;rw[LzC]at hs;cases Lz1 hs.1;have hx:=Lz4 hs.2;have h:(match ztC xs[0]?,ztC xs[xs.length-1]? with|some a,some b=>some (a,b)|_,_=>none)=some (f,l):=h;cases h1:ztC xs[0]? with
   |none=>grind
   |some a=>
    cases h2:ztC xs[xs.length-1]? with
    |none=>grind
    |some b=>
     rw[h1,h2]at h;cases h;have g1:=zod h1;have g2:=zod h2;have hl:0<xs.length:=(Lz0.1 g1).1;have i0:yb 1 (.lst 1 xs) (I6 0)=some [I6 f]:=(zif .i64 xs 0).trans g1;have i1:yb 1 (.lst 1 xs) (I6 ((xs.length:Int)-1))=some [I6 l]:=by grind[zif]
     have sb:zc .sub (I6 (xs.length:Int)) (I6 1)=some (I6 ((xs.length:Int)-1)):=zci
     grind[E73,P73,zuf,zb,y4]
 .cases h
theorem zAJ{args:List DA}{res:DA}(e:ntB args=some res):zaP (fun n=>zI (zT prog) (cFs (yI prog)) bSums redI.s n) 46 args res:=
 zAK (by kernel_rfl) rfl
  (fun n=>zy9 3 _ _ _ (e58 0 n none (by decide)))
  (fun q n hq=>zy9 3 _ _ _ (e58 0 n (some q) (by grind)))
  (fun x0 x1 x2 f l h=>zy9 1 _ _ _ (e73 0 x0 x1 x2 f l h)) e
end Go.Proofs.Tryz.Kn
end
noncomputable section
namespace Go.Proofs.Tryz.Kn
open Go Go.CE Go.PE
def B:Orc:=fun g args=>bif Nat.beq g 46 then ntB args else bif Nat.beq g 107 then tzB args else zwO bIds bSums g args
theorem zB9{g:Nat}(h:bIds.any (Nat.beq g)=false)(args:List DA):B g args=none:=by
 have hz0:Nat.beq g 46=false:=by
  cases hb:Nat.beq g 46 with
  |false=>rfl
  |true=>rw[Lz1 hb]at h;cases h
 have hz:Nat.beq g 107=false:=by
  cases hb:Nat.beq g 107 with
  |false=>rfl
  |true=>rw[Lz1 hb]at h;cases h
 unfold B;rw[hz0,hz];unfold zwO;rw[h];rfl
theorem zHB:zaj B (fun n=>zI (zT prog) (cFs (yI prog)) bSums redI.s n):=by
 intro g args res e;unfold B at e;cases hb0:Nat.beq g 46 with
 |true=>rw[hb0]at e;cases Lz1 hb0;exact zAJ e
 |false=>
 rw[hb0]at e;have e:(bif Nat.beq g 107 then tzB args else zwO bIds bSums g args)=some res:=e;cases hb:Nat.beq g 107 with
 |false=>rw[hb]at e;exact zwN (by kernel_rfl) g args res e
 |true=>rw[hb]at e;cases Lz1 hb;exact zzD (by kernel_rfl) rfl e
theorem zHD(args:List DA):B 46 args=ntB args:=rfl
theorem zBj{g:Nat}(h:([135,136,137,138]:List Nat).any (Nat.beq g)=true):bIds.any (Nat.beq g)=true:=by obtain⟨n,hn,e⟩:=List.any_eq_true.1 h;refine List.any_eq_true.2 ⟨n,?_,e⟩;simp only[bIds,Yya,Yyc,or_false]at hn ⊢;omega
theorem zHC{g:Nat}(h:([135,136,137,138]:List Nat).any (Nat.beq g)=true)(args:List DA):B g args=zwO bIds bSums g args:=by
 have e:Nat.beq g 107=false:=by
  cases hb:Nat.beq g 107 with
  |false=>rfl
  |true=>rw[Lz1 hb]at h;cases h
 have e0:Nat.beq g 46=false:=by
  cases hb:Nat.beq g 46 with
  |false=>rfl
  |true=>rw[Lz1 hb]at h;cases h
 unfold B;rw[e0,e];rfl
def D(k:Nat):Orc:=deep prog bSums B anT zmU zCD redI 6 k
theorem dF{k g:Nat}{args:List DA}{x:Option DA}(h:bIds.any (Nat.beq g)=false)(hr:(redI.s g).isNone=true)(e:zxk prog (D k) zmU (inl prog (D k) zmU (zCD g) redI 6) (anT g) g args=x):D (k+1) g args=x:=(zbr (zB9 h _) (zai h) hr).trans e
theorem zHj(k:Nat):zaj (D k) (fun n=>zI (zT prog) (cFs (yI prog)) bSums redI.s n):=zi5 zvR zmT zqa zHB k
theorem D7(k:Nat):D k 7 []=some (S1 (.bool true)):=zdn (by kernel_rfl)
theorem D8(k:Nat)(a b c d f h j m r s w y z aa:DV):D (k+1) 8 [SA [a,b,c,d,f,h,j,m,r,s,w,y,z,aa]]=P8 (D k) a b c d f h j m r s w y z aa:=dF rfl rfl (p8 ..)
theorem D9(k:Nat)(a b c d f h j m r s w y z aa:DV):D (k+1) 9 [SA [a,b,c,d,f,h,j,m,r,s,w,y,z,aa]]=P9 (D k) a b c d f h j m r s w y z aa:=dF rfl rfl (p9 ..)
theorem D10(k:Nat)(a b c d f h j m r s w y z aa ab ac ad a1:DV):D (k+1) 10 [SA [a,b,c,d,f,h,j,m,r,s,w,y,z,aa,ab,ac,ad],S1 a1]=P10 (D k) a b c d f h j m r s w y z aa ab ac ad a1:=dF rfl rfl (p10 ..)
theorem D14(k:Nat)(a b c d f h j m r:DV):D (k+1) 14 [SA [a,b,c,d],SA [f,h,j,m,r]]=P14 (D k) a b c d f h j m r:=dF rfl rfl (p14 ..)
theorem D15(k:Nat)(a b c d f h j m r s w y z aa ab ac ad ae af ag ah aj ak am an:DV):D (k+1) 15 [SA [a,b,c,d,f,h,j,m,r,s,w,y,z,aa,ab,ac,ad],SA [ae,af,ag],SA [ah,aj,ak,am,an]]=P15 (D k) a b c d f h j m r s w y z aa ab ac ad ae af ag ah aj ak am an:=dF rfl rfl (p15 ..)
theorem D18(k:Nat)(a b c d f h j m r s w y z aa ab ac ad a1 a2:DV):D (k+1) 18 [SA [a,b,c,d,f,h,j,m,r,s,w,y,z,aa,ab,ac,ad],S1 a1,S1 a2]=P18 (D k) a b c d f h j m r s w y z aa ab ac ad a1 a2:=dF rfl rfl (p18 ..)
theorem D22(k:Nat)(a b c d f h j:DV):D (k+1) 22 [SA [a,b,c,d],SA [f,h,j]]=P22 (D k) a b c d f h j:=dF rfl rfl (p22 ..)
theorem D23(k:Nat)(a b c d:DV):D (k+1) 23 [SA [a,b,c,d]]=P23 (D k) a b c d:=dF rfl rfl (p23 ..)
theorem D24(k:Nat)(a b c d f h j:DV):D (k+1) 24 [SA [a,b,c,d],SA [f,h,j]]=P24 (D k) a b c d f h j:=dF rfl rfl (p24 ..)
theorem D25(k:Nat)(a b c d f h j m r s w y z aa ab ac ad:DV):D (k+1) 25 [SA [a,b,c,d,f,h,j,m,r,s,w,y,z,aa,ab,ac,ad]]=P25 (D k) a b c d f h j m r s w y z aa ab ac ad:=dF rfl rfl (p25 ..)
theorem D31(k:Nat)(a b c d f h:DV):D (k+1) 31 [SA [a,b,c,d,f,h]]=P31 (D k) a b c d f h:=dF rfl rfl (p31 ..)
theorem D32(k:Nat)(a b c d f h:DV):D (k+1) 32 [SA [a,b,c,d,f,h]]=P32 (D k) a b c d f h:=dF rfl rfl (p32 ..)
theorem D44(k:Nat)(a b c d:DV):D (k+1) 44 [SA [a,b,c,d]]=P44 (D k) a b c d:=dF rfl rfl (p44 ..)
theorem D45(k:Nat)(a0:DV):D (k+1) 45 [S1 a0]=P45 (D k) a0:=dF rfl rfl (p45 ..)
theorem D56(k:Nat)(a b c:DV):D (k+1) 56 [SA [a,b,c]]=P56 (D k) a b c:=dF rfl rfl (p56 ..)
theorem D57(k:Nat)(a b c:DV):D (k+1) 57 [SA [a,b,c]]=P57 (D k) a b c:=dF rfl rfl (p57 ..)
theorem D58(k:Nat)(a0 a1:DV):D (k+1) 58 [S1 a0,S1 a1]=P58 (D k) a0 a1:=dF rfl rfl (p58 ..)
theorem D59(k:Nat)(a b c d f h j m:DV):D (k+1) 59 [SA [a,b,c,d],S1 (.fp [f,h,j,m] 0)]=P59 (D k) a b c d f h j m:=dF rfl rfl (p59 ..)
theorem D60(k:Nat)(a b c d f h j m:DV):D (k+1) 60 [SA [a,b,c,d],SA [f,h,j,m]]=P60 (D k) a b c d f h j m:=dF rfl rfl (p60 ..)
theorem D68(k:Nat)(a0:DV):D (k+1) 68 [S1 a0]=P68 (D k) a0:=dF rfl rfl (p68 ..)
theorem D69(k:Nat)(a b c d f h:DV):D (k+1) 69 [SA [a,b,c,d,f,h]]=P69 (D k) a b c d f h:=dF rfl rfl (p69 ..)
theorem D71(k:Nat)(a b c d f h j m r:DV):D (k+1) 71 [SA [a,b,c,d],SA [f,h,j,m,r]]=P71 (D k) a b c d f h j m r:=dF rfl rfl (p71 ..)
theorem D72(k:Nat)(a0 a1:DV):D (k+1) 72 [S1 a0,S1 a1]=P72 (D k) a0 a1:=dF rfl rfl (p72 ..)
theorem D82(k:Nat)(a b c d f h j m r a1:DV):D (k+1) 82 [SA [a,b,c,d,f,h,j,m,r],S1 a1]=P82 (D k) a b c d f h j m r a1:=dF rfl rfl (p82 ..)
theorem D83(k:Nat)(a0 a b c d f h a3:DV):D (k+1) 83 [S1 a0,SA [a,b],SA [c,d,f,h],S1 a3]=P83 (D k) a0 a b c d f h a3:=dF rfl rfl (p83 ..)
theorem D84(k:Nat)(a0 a1:DV):D (k+1) 84 [S1 a0,S1 a1]=P84 (D k) a0 a1:=dF rfl rfl (p84 ..)
theorem D89(k:Nat)(a0:DV):D (k+1) 89 [S1 a0]=P89 (D k) a0:=dF rfl rfl (p89 ..)
theorem D90(k:Nat)(a b:DV):D (k+1) 90 [SA [a,b]]=P90 (D k) a b:=dF rfl rfl (p90 ..)
theorem D91(k:Nat)(a0:DV):D (k+1) 91 [S1 a0]=P91 (D k) a0:=dF rfl rfl (p91 ..)
theorem D92(k:Nat)(a0:DV):D (k+1) 92 [S1 a0]=P92 (D k) a0:=dF rfl rfl (p92 ..)
theorem D93(k:Nat)(a b:DV):D (k+1) 93 [SA [a,b]]=P93 (D k) a b:=dF rfl rfl (p93 ..)
theorem D94(k:Nat)(a b c d f h j:DV):D (k+1) 94 [SA [a,b,c],SA [d,f,h,j]]=P94 (D k) a b c d f h j:=dF rfl rfl (p94 ..)
theorem D95(k:Nat)(a0 a1:DV):D (k+1) 95 [S1 a0,S1 a1]=P95 (D k) a0 a1:=dF rfl rfl (p95 ..)
theorem D96(k:Nat)(a b c d f h j m r s:DV):D (k+1) 96 [SA [a,b,c,d,f],S1 (.fp [h,j,m,r,s] 0)]=P96 (D k) a b c d f h j m r s:=dF rfl rfl (p96 ..)
theorem zHA(k:Nat)(a0:DV):D (k+1) 102 [S1 a0]=zET (D k) a0:=dF rfl rfl (zGt ..)
theorem zHz(k:Nat)(a0:DV):D (k+1) 103 [S1 a0]=zES (D k) a0:=dF rfl rfl (zGs ..)
theorem zHy(k:Nat)(a b c d:DV):D (k+1) 104 [SA [a,b],SA [c,d]]=zER (D k) a b c d:=dF rfl rfl (zGr ..)
theorem zHw(k:Nat)(a b:DV):D (k+1) 108 [SA [a,b]]=zEQ (D k) a b:=dF rfl rfl (zGq ..)
theorem zHv(k:Nat)(a0 a1:DV):D (k+1) 109 [S1 a0,S1 a1]=zEP (D k) a0 a1:=dF rfl rfl (zGp ..)
theorem zHu(k:Nat)(a0:DV):D (k+1) 110 [S1 a0]=zEO (D k) a0:=dF rfl rfl (zGo ..)
theorem zHt(k:Nat)(a b c:DV):D (k+1) 111 [SA [a,b,c]]=zEN (D k) a b c:=dF rfl rfl (zGn ..)
theorem zHs(k:Nat)(a b c a1:DV):D (k+1) 112 [SA [a,b,c],S1 a1]=zEM (D k) a b c a1:=dF rfl rfl (zGm ..)
theorem zHr(k:Nat)(a0 a1:DV):D (k+1) 113 [S1 a0,S1 a1]=zEL (D k) a0 a1:=dF rfl rfl (zGl ..)
theorem zHq(k:Nat)(a b c d:DV):D (k+1) 120 [SA [a,b],SA [c,d]]=zEK (D k) a b c d:=dF rfl rfl (zGk ..)
theorem zHp(k:Nat)(a b c d:DV):D (k+1) 121 [SA [a,b],SA [c,d]]=zEJ (D k) a b c d:=dF rfl rfl (zGj ..)
theorem zHo(k:Nat)(a0 a1:DV):D (k+1) 122 [S1 a0,S1 a1]=zEI (D k) a0 a1:=dF rfl rfl (zGi ..)
theorem zHn(k:Nat)(a0:DV):D (k+1) 123 [S1 a0]=zEH (D k) a0:=dF rfl rfl (zGh ..)
theorem zHm(k:Nat)(a0 a1:DV):D (k+1) 124 [S1 a0,S1 a1]=zEG (D k) a0 a1:=dF rfl rfl (zGg ..)
theorem zHl(k:Nat)(a0 a b:DV):D (k+1) 125 [S1 a0,SA [a,b]]=zEF (D k) a0 a b:=dF rfl rfl (zGf ..)
theorem zHk(k:Nat)(a0 a b:DV):D (k+1) 139 [S1 a0,SA [a,b]]=zEE (D k) a0 a b:=dF rfl rfl (zGe ..)
theorem D21(k:Nat)(b0:List (List DV))(a b c d f:DV):D (k+1) 21 [SA [.lst 1 b0,a,b],SA [c,d,f]]=P21 (D k) b0 a b c d f:=dF rfl rfl (p21 ..)
theorem D6(k:Nat)(a b c d f h j m r s w y z aa ab ac ad ae af ag ah aj ak am an ap aq ar au av aw ax ay az ba bb:DV):D (k+1) 6 [SA [a,b,c,d,f,h,j,m,r,s,w,y,z,aa],SA [ab,ac,ad,ae,af],SA [ag,ah,aj,ak,am,an,ap,aq,ar,au,av,aw,ax,ay,az,ba,bb]]=P6 (D k) a b c d f h j m r s w y z aa ab ac ad ae af ag ah aj ak am an ap aq ar au av aw ax ay az ba bb:=dF rfl rfl (p6 ..)
theorem D20(k:Nat)(a b c d f h:DV):D (k+1) 20 [SA [a,b,c,d],SA [f,h]]=P20 (D k) a b c d f h:=dF rfl rfl (p20 ..)
theorem D26(k:Nat)(a b c d f h j m r s w y z aa ab ac ad a1:DV):D (k+1) 26 [SA [a,b,c,d,f,h,j,m,r,s,w,y,z,aa,ab,ac,ad],S1 a1]=P26 (D k) a b c d f h j m r s w y z aa ab ac ad a1:=dF rfl rfl (p26 ..)
theorem D27(k:Nat)(a b c d f h j m r s w y z aa ab ac ad a1:DV):D (k+1) 27 [SA [a,b,c,d,f,h,j,m,r,s,w,y,z,aa,ab,ac,ad],S1 a1]=P27 (D k) a b c d f h j m r s w y z aa ab ac ad a1:=dF rfl rfl (p27 ..)
theorem D28(k:Nat)(a b c d f h j m r s w y z aa ab ac ad a1:DV):D (k+1) 28 [SA [a,b,c,d,f,h,j,m,r,s,w,y,z,aa,ab,ac,ad],S1 a1]=P28 (D k) a b c d f h j m r s w y z aa ab ac ad a1:=dF rfl rfl (p28 ..)
theorem D29(k:Nat)(a b c d f h j m r s w y z aa ab ac ad a1 ae af:DV):D (k+1) 29 [SA [a,b,c,d,f,h,j,m,r,s,w,y,z,aa,ab,ac,ad],S1 a1,SA [ae,af]]=P29 (D k) a b c d f h j m r s w y z aa ab ac ad a1 ae af:=dF rfl rfl (p29 ..)
end Go.Proofs.Tryz.Kn
end
section
namespace Go.Proofs.Tryz.Kn
open Go Go.CE Go.PE
theorem zop:∀(l:List UInt8) (i:Nat),zmA l i=(l[i]?).map fun c=>U8 (c.toNat:Int)
 | [],i=>by simp[zmA]
 |c::l,0=>rfl
 |c::l,i+1=>by show zmA l i=_;rw[zop l i];simp
theorem zjR(s:ByteArray)(k:IntKind)(i:Nat):zei (.str s) (.int k (i:Int))=(s.data.toList[i]?).map fun c=>U8 (c.toNat:Int):=zop _ _
theorem zhW(s:ByteArray):s.size=s.data.toList.length:=(Array.length_toList (xs:=s.data)).symm
theorem zue(a b:ByteArray):zq3 .eql (.str a) (.str b)=some (.bool (a.data.toList==b.data.toList)):=rfl
def zfO(n:Int):Bool:=(decide (65<=n)&&decide (n<=90))||(decide (97<=n)&&decide (n<=122))
theorem t89(k:Nat)(n:Int):D (k+1) 89 [S1 (U8 n)]=some (S1 (Bo (zfO n))):=by rw[D89];unfold P89 zfO;by_cases h1:65<=n<;>by_cases h2:n<=90<;>by_cases h3:97<=n<;>by_cases h4:n<=122<;>simp[h1,h2,h3,h4]
def zpN(n:Int):Bool:=zfO n||(decide (48<=n)&&decide (n<=57))||decide (n=95)
def isName(s:ByteArray):Bool:=
 match s.data.toList with
 | []=>false
 |c::l=>decide (l.length<=31)&&zfO (c.toNat:Int)&&l.all fun c=>zpN (c.toNat:Int)
theorem l68(k:Nat)(s:ByteArray)(hs:s.data.toList.length<=1000):∀(r:List UInt8) (i:Nat),s.data.toList.drop i=r->
  zS (zti (D (k+1)) (.str s)) [I6 (i:Int)] []=some (if r.all (fun c=>zpN (c.toNat:Int)) then(.exit 0,[],[]) else(.ret,[Bo false],[])):=by
 intro r
 induction r with
 |nil=>grind[zr,z6,zti,zA,zfr,zb,zi,zhW,wq,zm]
 |cons c r ih=>
  intro i h;have h1:=yn h;have h2:(i:Int)<(s.data.toList.length:Int):=by omega
  have ea:zc .add (I6 (i:Int)) (I6 1)=some (I6 ((i+1:Nat):Int)):=yG;have ix:zei (.str s) (I6 (i:Int))=some (U8 (c.toNat:Int)):=by rw[zjR,ye h];rfl
  have body:zti (D (k+1)) (.str s) [I6 (i:Int)] []=some (if zpN (c.toNat:Int) then(.normal,[I6 ((i+1:Nat):Int)],[]) else(.ret,[Bo false],[])):=by
   simp only[zti,zA,zfr,zb,zi,zm,zhW,zbN h1,if_true,ix,t89,zR,xI,ea,z7,zW]
   grind[zpN]
  cases hc:zpN (c.toNat:Int) with
  |true=>rw[hc]at body;rw[zE body,ih (i+1) (zJ h)];simp[hc]
  |false=>grind[zz]
theorem t68(k:Nat)(s:ByteArray):D (k+2) 68 [S1 (St s)]=some (S1 (Bo (isName s))):=by
 rw[D68];unfold P68 isName;simp only[zue,zb,zm,zfr,zW,zhW];cases hl:s.data.toList with
 |nil=>rfl
 |cons c l=>
  have ix:zei (.str s) (I6 0)=some (U8 (c.toNat:Int)):=by grind[zjR]
  simp only[ix,zb,t89,zR,xI,zm];rw[show ((c::l:List UInt8)==(ByteArray.mk #[]).data.toList)=false from rfl];by_cases h1:l.length<=31
  .have h2:¬(32<((c::l).length:Int)):=by grind
   simp only[h2,h1,decide_true,decide_false,Yyb,Yzp,if_false];cases zfO (c.toNat:Int) with
   |false=>rfl
   |true=>have:=l68 k s (by grind) l 1 (by grind);simp only[Yyo,Yzp,if_false,Yyb];rw[show (I6 1:DV)=I6 ((1:Nat):Int) from rfl,this];cases l.all fun c=>zpN (c.toNat:Int)<;>rfl
  .grind
def right(a b:Int):Int:=if a<0 then 3 else if 127<b then 3 else if b<a then 23 else 0
theorem t93(k:Nat)(a b:Int):D (k+1) 93 [SA [I6 a,I6 b]]=some (S1 (I6 (right a b))):=by rw[D93];unfold P93 right;by_cases h1:a<0<;>by_cases h2:127<b<;>by_cases h3:b<a<;>simp[h1,h2,h3]
theorem zGD(_O:Orc):∀(b a:Nat),zS (zox) [U64 (b:Int),U64 (a:Int)] []=some (.exit 0,[U64 ((Nat.gcd b a:Nat):Int)],[]):=by
 intro b
 induction b using Nat.strongRecOn with
 |ind b ih=>
  intro a;by_cases hb:0<b
  .have hz:(b:Int)≠0:=by omega
   have h0:(0:Int)<(b:Int):=by omega
   rw[zE (L':=[U64 ((a % b:Nat):Int),U64 (b:Int)]) (M':=[]) (by simp only[zox,zA,yJ,zW,zb,zm,zeN _ _ _ hz,h0,decide_true,if_true];rfl),ih (a % b) (Yzn _ hb) b,<-Nat.gcd_rec]
  .have:b=0:=by omega
   subst this;exact zr (by simp[zox])
theorem zFZ(k:Nat)(a b:Nat):D (k+1) 122 [S1 (U64 (a:Int)),S1 (U64 (b:Int))]=some (S1 (U64 ((Nat.gcd b a:Nat):Int))):=by rw[zHo];unfold zEI;rw[zGD B];rfl
theorem zi7{k:IntKind}{n:Nat}(h:n<=18446744073709551615):zx .u64 (.int k (n:Int))=some (U64 (n:Int)):=by
 show some (DV.int .u64 (bif Nat.ble n 18446744073709551615 then .ofNat n else IntKind.wrap .u64 (.ofNat n)))=_
 grind[Yzg]
theorem zFY(k:Nat){a:Int}(h1:-1000000<=a)(h2:a<=1000000):D (k+1) 123 [S1 (I6 a)]=some (S1 (U64 (a.natAbs:Int))):=by
 rw[zHn];unfold zEH;by_cases h:a<0
 .obtain⟨n,rfl⟩:∃n:Nat,a=-(n:Int):=⟨a.natAbs,by omega⟩;have e1:zx .u64 (I6 (-(n:Int)))=some (U64 (18446744073709551616-(n:Int))):=by
   show some (DV.int .u64 (xV .u64 (-(n:Int))))=_
   grind[zjs]
  have e2:xV .u64 (-(18446744073709551616-(n:Int)))=(n:Int):=by grind[zjs]
  simp_all
 .obtain⟨n,rfl⟩:∃n:Nat,a=(n:Int):=⟨a.natAbs,by omega⟩;simp only[zi,zb,zm,h,decide_false,Yzp,if_false,zi7 (show n<=18446744073709551615 by omega)];simp
def zf3(n d:Int):Int:=if d<=0 then 2 else if 1000000<d then 2 else if n < -1000000 then 2 else if 1000000<n then 2 else bif Nat.gcd d.toNat n.natAbs==1 then 0 else 2
theorem zF6(k:Nat)(n d:Int):D (k+2) 108 [SA [I6 n,I6 d]]=some (S1 (I6 (zf3 n d))):=by
 rw[zHw];unfold zEQ zf3;simp only[wV,zW,zi,zb,zm,Yzo];by_cases h1:d<=0
 .grind
 by_cases h2:1000000<d
 .grind
 by_cases h3:n < -1000000
 .grind
 by_cases h4:1000000<n
 .grind
 obtain⟨m,rfl⟩:∃m:Nat,d=(m:Int):=⟨d.toNat,by omega⟩;simp only[h1,h2,h3,h4,if_false];rw[zFY k (by omega) (by omega)]
 grind[zR,zi7,zb,zFZ,z7,zm]
def zaB(n d:Int):Int:=if zf3 n d≠0 then 2 else if n<=0 then 3 else if 128*d<n then 3 else if 128<d then 4 else 0
theorem t90(k:Nat)(n d:Int):D (k+3) 90 [SA [I6 n,I6 d]]=some (S1 (I6 (zaB n d))):=by
 rw[D90];unfold P90 zaB;rw[zF6];simp only[zR,z7,zb,zm];by_cases h:zf3 n d=0
 .have hd:0<d/\d<=1000000:=by
   grind[zf3]
  simp only[h,wV,zb,zm,zlF (show (-9223372036854775808:Int)<=128*d by omega) (show 128*d<=9223372036854775807 by omega),zW,Yzo]
  grind
 .simp[h]
theorem t91(k:Nat)(n:Int):D (k+1) 91 [S1 (I6 n)]=some (S1 (Bo (decide (-256<=n)&&decide (n<=256)))):=by rw[D91];unfold P91;by_cases h1:-256<=n<;>by_cases h2:n<=256<;>simp[h1,h2]
def ve(n:Int):Bool:=decide (n<0)||decide (1000000<n)
theorem zF4(k:Nat)(n:Int):D (k+1) 110 [S1 (I6 n)]=some (S1 (Bo (ve n))):=by rw[zHu];unfold zEO ve;by_cases h1:n<0<;>by_cases h2:1000000<n<;>simp[h1,h2]
theorem zBT(O:Orc)(g:Nat)(ds:List DA):zjr O (.fn g []) ds=O g ds:=by simp[zjr]
def q9{α:Type}(p:α->Bool):List α->Nat->Option Nat
 | [],_=>none
 |x::l,i=>if p x then some i else q9 p l (i+1)
theorem uT{α:Type}(p:α->Bool):∀(l:List α) (i:Nat),(q9 p l i).isSome=l.any p
 | [],_=>rfl
 |x::l,i=>by
  simp only[q9,List.any_cons];cases h:p x
  .simp[uT p l (i+1)]
  .simp
def found:Option Nat->PX
 |some i=>(.ret,[I6 (i:Int)],[])
 |none=>(.exit 0,[],[])
abbrev enW(n:Int):List DV:=[I6 n]
theorem zGC(k:Nat)(w:Sl Int)(hw:w.els.length<=9223372036854775807):∀(r:List Int) (i:Nat),w.els.drop i=r->
  zS (zkV (D (k+1)) (I6 (w.els.length:Int)) (enL 1 enW w) (.fn 110 [])) [I6 (i:Int)] []=some (found (q9 ve r i)):=by
 intro r
 induction r with
 |nil=>
  intro i h;refine zr ?_
  grind[zkV,zA,zi,zb,wq,z6,zm]
 |cons x r ih=>
  intro i h;have h1:=yn h;have ea:zc .add (I6 (i:Int)) (I6 1)=some (I6 ((i+1:Nat):Int)):=yG;have body:zkV (D (k+1)) (I6 (w.els.length:Int)) (enL 1 enW w) (.fn 110 []) [I6 (i:Int)] []=some (if ve x then(.ret,[I6 (i:Int)],[]) else(.normal,[I6 ((i+1:Nat):Int)],[])):=by
   simp only[zkV,zA,zi,zb,zbN h1,zm,if_true,zX h,y4,zBT,zF4,zR,ea]
   grind
  grind[zz,q9,found,zE,zJ]
theorem zFX(k:Nat)(w:Sl Int)(hw:w.els.length<=9223372036854775807):D (k+2) 124 [S1 (enL 1 enW w),S1 (.fn 110 [])]=some (S1 (I6 (match q9 ve w.els 0 with|some i=>(i:Int)|none=>-1))):=by rw[zHm];unfold zEG;have:=zGC k w hw w.els 0 rfl;simp only[zg,zb];rw[show (I6 0:DV)=I6 ((0:Nat):Int) from rfl,this];cases q9 ve w.els 0<;>rfl
theorem zF5(k:Nat)(w:Sl Int)(hw:w.els.length<=9223372036854775807):D (k+3) 109 [S1 (enL 1 enW w),S1 (.fn 110 [])]=some (S1 (Bo (w.els.any ve))):=by rw[zHv];unfold zEP;rw[zFX k w hw,<-uT ve w.els 0];cases q9 ve w.els 0<;>simp_all
theorem t92(k:Nat)(w:Sl Int)(hw:w.els.length<=9223372036854775807):D (k+4) 92 [S1 (enL 1 enW w)]=some (S1 (I6 (if w.els.any ve then 3 else 0))):=by rw[D92];unfold P92;rw[zF5 k w hw];cases w.els.any ve<;>rfl
structure Zm where
 name:ByteArray
 tone:ByteArray
 num:Int
 den:Int
 first:Int
 wind:Sl Int
def enR(r:Zm):List DV:=[St r.name,St r.tone,I6 r.num,I6 r.den,I6 r.first,enL 1 enW r.wind]
def xe(r:Zm):Int:=
 if !isName r.name then 8 else if !isName r.tone then 8 else if zaB r.num r.den≠0 then zaB r.num r.den
 else if !(decide (-256<=r.first)&&decide (r.first<=256)) then 3 else if r.wind.els.length=0 then 13 else if 128<r.wind.els.length then 4 else if r.wind.els.any ve then 3 else 0
theorem t69(k:Nat)(r:Zm)(hw:r.wind.els.length<=9223372036854775807):D (k+5) 69 [SA (enR r)]=some (S1 (I6 (xe r))):=by
 unfold enR;rw[D69];unfold P69 xe;simp only[t68,zR,xI,zb,zm];cases isName r.name with
 |false=>rfl
 |true=>
  cases isName r.tone with
  |false=>rfl
  |true=>
   simp only[t90,t91,t92 k r.wind hw,zR,xI,zb,zm,z7,zg,xO,zW,Yyo,Yzp,if_false]
   grind
def ub:List Zm->Int
 | []=>0
 |r::l=>if xe r≠0 then xe r else ub l
def zg3(r:Zm):Prop:=r.wind.els.length<=9223372036854775807
def zhz(id:Nat)(e:Int):PX:=if e≠0 then(.ret,[I6 e],[]) else(.exit id,[],[])
theorem zGG(k:Nat)(l:Sl Zm)(hl:l.els.length<=9223372036854775807)(hr:∀r∈l.els,zg3 r):∀(r:List Zm) (i:Nat),l.els.drop i=r->
  zS (zkY (D (k+5)) (I6 (l.els.length:Int)) (enL 6 enR l)) [I6 (i:Int)] []=some (zhz 0 (ub r)):=by
 intro r
 induction r with
 |nil=>
  intro i h;refine zr ?_
  grind[zkY,zA,zi,zb,wq,z6,zm]
 |cons x r ih=>
  intro i h;have h1:=yn h;have ea:zc .add (I6 (i:Int)) (I6 1)=some (I6 ((i+1:Nat):Int)):=yG;have hx:zg3 x:=hr x (Lz3 (ye h));have c:D (k+5) 69 [SA [atD (enR x) 0,atD (enR x) 1,atD (enR x) 2,atD (enR x) 3,atD (enR x) 4,atD (enR x) 5]]=some (S1 (I6 (xe x))):=t69 k x hx;have body:zkY (D (k+5)) (I6 (l.els.length:Int)) (enL 6 enR l) [I6 (i:Int)] []=some (if xe x≠0 then(.ret,[I6 (xe x)],[]) else(.normal,[I6 ((i+1:Nat):Int)],[])):=by
   simp only[zkY,zA,zi,zb,zbN h1,zm,if_true,zX h,c,zR,z7,ea]
   grind
  by_cases hc:xe x=0
  .rw[Yza (by omega)]at body;rw[zE body,ih (i+1) (zJ h)];grind[ub]
  .rw[Yzc hc]at body;grind[zz,ub,zhz]
structure Place where
 ranks:Sl Zm
 low:Int
 high:Int
def enP(x:Place):List DV:=[enL 6 enR x.ranks,I6 x.low,I6 x.high]
structure Place.ok (x:Place):Prop where
 len:x.ranks.els.length<=9223372036854775807
 ranks:∀r∈x.ranks.els,zg3 r
def zat(x:Place):Int:=if 60<x.ranks.els.length then 4 else if ub x.ranks.els≠0 then ub x.ranks.els else right x.low x.high
theorem zF3(k:Nat)(x:Place)(hx:x.ok):D (k+6) 111 [SA (enP x)]=some (S1 (I6 (zat x))):=by
 unfold enP;rw[zHt];unfold zEN zat;have:=zGG k x.ranks hx.len hx.ranks x.ranks.els 0 rfl;simp only[zg,zb,zW,zm];rw[show (I6 0:DV)=I6 ((0:Nat):Int) from rfl,this];by_cases h1:60<x.ranks.els.length
 .grind
 .have h2:¬((60:Int)<(x.ranks.els.length:Int)):=by omega
  simp only[h1,h2,decide_false,Yzp,if_false];unfold zhz;by_cases h3:ub x.ranks.els=0<;>simp_all[t93]
structure Zr where
 rank:Int
 shift:Int
deriving DecidableEq
def enD(d:Zr):List DV:=[I6 d.rank,I6 d.shift]
theorem zsG(a b:Zr):zvi [1,1] [I6 a.rank,I6 a.shift] [I6 b.rank,I6 b.shift]=some (decide (a=b)):=by
 cases a with|mk r s=>
 cases b with|mk r' s'=>
 simp only[zvi,eqD,xR,Yzb,uV];by_cases h1:r=r'
 .by_cases h2:s=s'
  .grind
  .have e2:(s==s')=false:=by grind
   simp[h1,h2,e2]
 .have e1:(r==r')=false:=by grind
  simp[h1,e1]
theorem zGB(d:Zr)(l:Sl Zr)(hl:l.els.length<=9223372036854775807):∀(r:List Zr) (i:Nat),l.els.drop i=r->
  zS (zkU (I6 (l.els.length:Int)) (enL 2 enD l) (I6 d.rank) (I6 d.shift)) [I6 (i:Int)] []=some (found (q9 (fun x=>decide (d=x)) r i)):=by
 intro r
 induction r with
 |nil=>
  intro i h;refine zr ?_
  grind[zkU,zA,zi,zb,wq,z6,zm]
 |cons x r ih=>
  intro i h;have h1:=yn h;have ea:zc .add (I6 (i:Int)) (I6 1)=some (I6 ((i+1:Nat):Int)):=yG;have eq:=zsG d x;have body:zkU (I6 (l.els.length:Int)) (enL 2 enD l) (I6 d.rank) (I6 d.shift) [I6 (i:Int)] []=some (if d=x then(.ret,[I6 (i:Int)],[]) else(.normal,[I6 ((i+1:Nat):Int)],[])):=by
   simp only[zkU,zA,zi,zb,zbN h1,zm,if_true,zX h,enD,y4,ww,eq,ea]
   grind
  by_cases hc:d=x
  .rw[Yzc hc]at body;grind[zz,q9,found]
  .rw[Yza hc]at body;grind[zE,zJ,q9]
theorem zFV(k:Nat)(d:Zr)(l:Sl Zr)(hl:l.els.length<=9223372036854775807):D (k+1) 139 [S1 (enL 2 enD l),SA (enD d)]=some (S1 (I6 (match q9 (fun x=>decide (d=x)) l.els 0 with|some i=>(i:Int)|none=>-1))):=by unfold enD;rw[zHk];unfold zEE;have:=zGB d l hl l.els 0 rfl;unfold enD at this;simp only[zg,zb];rw[show (I6 0:DV)=I6 ((0:Nat):Int) from rfl,this];cases q9 (fun x=>decide (d=x)) l.els 0<;>rfl
theorem zFW(k:Nat)(d:Zr)(l:Sl Zr)(hl:l.els.length<=9223372036854775807):D (k+2) 125 [S1 (enL 2 enD l),SA (enD d)]=some (S1 (Bo (l.els.any fun x=>decide (d=x)))):=by have:=zFV k d l hl;unfold enD at this ⊢;rw[zHl];unfold zEF;rw[this,<-uT (fun x=>decide (d=x)) l.els 0];cases q9 (fun x=>decide (d=x)) l.els 0<;>simp_all
end Go.Proofs.Tryz.Kn
end
section
namespace Go.Proofs.Tryz.Kn
open Go Go.CE Go.PE
theorem zEu(y:Nat):zcD none 0 y=some 0:=rfl
theorem zEv{k:IntKind}{i d y:Nat}(h:i<=y):zcD (some (.int k (i:Int))) d y=some i:=by
 show (bif Nat.ble i y then some i else none)=_
 grind[Yzg]
theorem zfo{α:Type}{st i:Nat}{f:α->List DV}{l:List α}{k:IntKind}(h:i<=l.length):
  za0 st (enL st f (some l)) none (some (.int k (i:Int)))=some (enL st f (some (l.take i))):=by
 simp_all[za0,zi1,zEv,zEu]
def zcA(n:Nat):List Zr->List Zr->Int
 |_,[]=>0
 |p,d::r=>if d.rank<0 then 10 else if (n:Int)<=d.rank then 10 else if d.shift < -127 then 3 else if 127<d.shift then 3 else if p.any (fun x=>decide (d=x)) then 9 else zcA n (p++[d]) r
def xn(n:Nat)(l:List Zr):Int:=if 8<l.length then 4 else zcA n [] l
theorem zGF(k:Nat)(rs:Sl Zm)(l:List Zr)(hl:l.length<=9223372036854775807):∀(r:List Zr) (i:Nat),l.drop i=r->
  zS (zkX (D (k+2)) (I6 (l.length:Int)) (enL 2 enD (some l)) (enL 6 enR rs)) [I6 (i:Int)] []=some (zhz 0 (zcA rs.els.length (l.take i) r)):=by
 intro r
 induction r with
 |nil=>
  intro i h;refine zr ?_
  grind[zkX,zA,zi,zb,wq,z6,zm]
 |cons x r ih=>
  intro i h;have h1:=yn h;have ea:zc .add (I6 (i:Int)) (I6 1)=some (I6 ((i+1:Nat):Int)):=yG;have ix:yb 2 (enL 2 enD (some l)) (I6 (i:Int))=some (enD x):=zX (v:=some l) h _;have sl:za0 2 (enL 2 enD (some l)) none (some (I6 (i:Int)))=some (enL 2 enD (some (l.take i))):=zfo (by omega);have c:=zFW k x (some (l.take i)) (by grind);simp only[enD]at c;have body:zkX (D (k+2)) (I6 (l.length:Int)) (enL 2 enD (some l)) (enL 6 enR rs) [I6 (i:Int)] [] =
    some (if x.rank<0 then(.ret,[I6 10],[]) else if (rs.els.length:Int)<=x.rank then(.ret,[I6 10],[]) else if x.shift < -127 then(.ret,[I6 3],[]) else if 127<x.shift then(.ret,[I6 3],[]) else if (l.take i).any (fun y=>decide (x=y)) then(.ret,[I6 9],[]) else(.normal,[I6 ((i+1:Nat):Int)],[])):=by
   simp only[zkX,zA,zi,zb,zbN h1,zm,if_true,ix,enD,y4,ww,zg,xD,zW,sl,c,zR,ea,Yzo,Sl.els,Yyf]
   grind
  have hn:l.take (i+1)=l.take i++[x]:=by grind
  unfold zcA;by_cases a1:x.rank<0
  .rw[Yzc a1]at body ⊢;rw[zz body];rfl
  rw[Yza a1]at body ⊢;by_cases a2:(rs.els.length:Int)<=x.rank
  .rw[Yzc a2]at body ⊢;rw[zz body];rfl
  rw[Yza a2]at body ⊢;by_cases a3:x.shift < -127
  .rw[Yzc a3]at body ⊢;rw[zz body];rfl
  rw[Yza a3]at body ⊢;by_cases a4:127<x.shift
  .rw[Yzc a4]at body ⊢;rw[zz body];rfl
  rw[Yza a4]at body ⊢;by_cases a5:(l.take i).any (fun y=>decide (x=y))=true
  .rw[Yzc a5]at body ⊢;rw[zz body];rfl
  rw[Yza a5]at body ⊢
  grind[zE,zJ]
theorem zF2(k:Nat)(x:Place)(l:Sl Zr)(hl:l.els.length<=9223372036854775807):D (k+3) 112 [SA (enP x),S1 (enL 2 enD l)]=some (S1 (I6 (xn x.ranks.els.length l.els))):=by
 unfold enP;rw[zHs];unfold zEM xn;simp only[zg,zb,zW,zm];by_cases h1:8<l.els.length
 .grind
 .have h2:¬((8:Int)<(l.els.length:Int)):=by omega
  simp only[h1,h2,decide_false,Yzp,if_false];cases l with
  |none=>rw[zr (id:=0) (L':=[]) (M':=[]) (by rfl)];rfl
  |some l=>have:=zGF k x.ranks l hl l 0 rfl;rw[show (I6 0:DV)=I6 ((0:Nat):Int) from rfl,show Sl.els (some l:Sl Zr)=l from rfl,this,List.take_zero];unfold zhz;by_cases h3:zcA x.ranks.els.length [] l=0<;>simp_all
structure Seg where
 lo:Int
 hi:Int
 draws:Sl Zr
def enS(g:Seg):List DV:=[I6 g.lo,I6 g.hi,enL 2 enD g.draws]
def zz0(g:Seg):Prop:=g.draws.els.length<=9223372036854775807
structure Zt where
 name:ByteArray
 num:Int
 den:Int
 segs:Sl Seg
def vY(s:Zt):List DV:=[St s.name,I6 s.num,I6 s.den,enL 3 enS s.segs]
structure Zt.ok (s:Zt):Prop where
 len:s.segs.els.length<=9223372036854775807
 segs:∀g∈s.segs.els,zz0 g
def leO(a:Int):Option Int->Bool
 |some t=>decide (a<=t)
 |none=>false
def zeh(l:List Seg):Nat->Option Int
 |0=>none
 |j+1=>(l[j]?).map Seg.hi
def zao(x:Place):List Seg->Option Int->Int
 | [],_=>0
 |g::r,p=>
  if min g.lo g.hi<x.low then 23 else if x.high<max g.lo g.hi then 23 else if g.hi<g.lo then 6
  else if leO g.lo p then 6
  else if xn x.ranks.els.length g.draws.els≠0 then xn x.ranks.els.length g.draws.els else zao x r (some g.hi)
theorem l94(k:Nat)(x:Place)(l:Sl Seg)(hl:l.els.length<=9223372036854775807)(hs:∀g∈l.els,zz0 g):∀(r:List Seg) (i:Nat),l.els.drop i=r->
  zS (zkH (D (k+3)) (I6 (l.els.length:Int)) (enL 3 enS l) (I6 x.low) (I6 x.high) (enL 6 enR x.ranks)) [I6 (i:Int)] []=some (zhz 1 (zao x r (zeh l.els i))):=by
 intro r
 induction r with
 |nil=>
  intro i h;refine zr ?_
  grind[zkH,zA,zi,zb,wq,z6,zm]
 |cons g r ih=>
  intro i h;have h1:=yn h;have ea:zc .add (I6 (i:Int)) (I6 1)=some (I6 ((i+1:Nat):Int)):=yG;have c:=zF2 k x g.draws (hs g (Lz3 (ye h)));simp only[enP]at c;have body:zkH (D (k+3)) (I6 (l.els.length:Int)) (enL 3 enS l) (I6 x.low) (I6 x.high) (enL 6 enR x.ranks) [I6 (i:Int)] [] =
    some (if min g.lo g.hi<x.low then(.ret,[I6 23],[]) else if x.high<max g.lo g.hi then(.ret,[I6 23],[]) else if g.hi<g.lo then(.ret,[I6 6],[])
     else if leO g.lo (zeh l.els i)=true then(.ret,[I6 6],[]) else if xn x.ranks.els.length g.draws.els≠0 then(.ret,[I6 (xn x.ranks.els.length g.draws.els)],[]) else(.normal,[I6 ((i+1:Nat):Int)],[])):=by
   simp only[zkH,zA,zi,zb,zbN h1,zm,if_true,zX h,enS,y4,ww,zxi,zAo,zW,c,zR,ea,Yzo,z7];have tail:(if (!(xn x.ranks.els.length g.draws.els==0))=true then some ((.ret,[I6 (xn x.ranks.els.length g.draws.els)],[]):PX) else some (.normal,[I6 ((i+1:Nat):Int)],[])) =
     some (if xn x.ranks.els.length g.draws.els≠0 then(.ret,[I6 (xn x.ranks.els.length g.draws.els)],[]) else(.normal,[I6 ((i+1:Nat):Int)],[])):=by
    grind
   rw[tail];cases i with
   |zero=>
    have:¬((0:Int)<((0:Nat):Int)):=by omega
    simp only[this,if_false,Yzp,zeh,leO]
    grind
   |succ j=>
    obtain⟨q,hq⟩:∃q,l.els[j]? = some q:=⟨_,Lz5 (by omega)⟩;have h2:(0:Int)<((j+1:Nat):Int):=by omega
    have es:zc .sub (I6 ((j+1:Nat):Int)) (I6 1)=some (I6 (((j+1:Nat):Int)-1)):=zci;have e1:((j+1:Nat):Int)-1=(j:Int):=by omega
    rw[e1]at es;have ix:yb 3 (enL 3 enS l) (I6 (j:Int))=some (enS q):=by grind[xC]
    simp only[zeh,hq,YzG,leO,h2,if_true,es,zb,ix,enS,ww,y4,wV,zm,Yzo]
    grind
  have hp:zeh l.els (i+1)=some g.hi:=by simp only[zeh,ye h,YzG]
  unfold zao;by_cases a1:min g.lo g.hi<x.low
  .rw[Yzc a1]at body ⊢;rw[zz body];rfl
  rw[Yza a1]at body ⊢;by_cases a2:x.high<max g.lo g.hi
  .rw[Yzc a2]at body ⊢;rw[zz body];rfl
  rw[Yza a2]at body ⊢;by_cases a3:g.hi<g.lo
  .rw[Yzc a3]at body ⊢;rw[zz body];rfl
  rw[Yza a3]at body ⊢;by_cases a4:leO g.lo (zeh l.els i)=true
  .rw[Yzc a4]at body ⊢;rw[zz body];rfl
  rw[Yza a4]at body ⊢;by_cases a5:xn x.ranks.els.length g.draws.els≠0
  .rw[Yzc a5]at body ⊢;grind[zz,zhz]
  rw[Yza a5]at body ⊢
  grind[zE,zJ]
def ji(x:Place)(s:Zt):Int:=
 if zat x≠0 then zat x else if !isName s.name then 8 else if zaB s.num s.den≠0 then zaB s.num s.den
 else if s.segs.els.length=0 then 13 else if 12<s.segs.els.length then 4 else zao x s.segs.els none
theorem t94(k:Nat)(x:Place)(s:Zt)(hx:x.ok)(hs:s.ok):D (k+7) 94 [SA (enP x),SA (vY s)]=some (S1 (I6 (ji x s))):=by
 have c1:=zF3 k x hx;have l:=l94 (k+3) x s.segs hs.len hs.segs s.segs.els 0 rfl;unfold enP at c1 ⊢;unfold vY;rw[D94];unfold P94 ji;simp only[c1,t68,t90,zR,z7,zb,zm,xI,zg,xO,zW];by_cases h1:zat x=0
 .simp only[h1];cases isName s.name with
  |false=>rfl
  |true=>
   by_cases h2:zaB s.num s.den=0
   .simp only[h2];by_cases h3:s.segs.els.length=0
    .simp[h3]
    .have h4:¬((s.segs.els.length:Int)=0):=by omega
     by_cases h5:12<s.segs.els.length
     .grind
     .have h6:¬((12:Int)<(s.segs.els.length:Int)):=by omega
      rw[show (I6 0:DV)=I6 ((0:Nat):Int) from rfl,l,show zeh s.segs.els 0=none from rfl];unfold zhz;by_cases h7:zao x s.segs.els none=0
      .simp[h3,h5,h6,h7]
      .simp[h3,h5,h6,h7]
   grind
 grind
end Go.Proofs.Tryz.Kn
end
section
namespace Go.Proofs.Tryz.Kn
open Go Go.CE Go.PE
def enF(p:Int×Int):List DV:=[I6 p.1,I6 p.2]
def feetA:List (Int×Int):=[(8,1),(4,1),(16,1),(2,1),(8,3),(8,5),(4,3),(1,1),(32,1),(16,3),(16,5),(32,3),(8,7),(2,3),(1,2),(64,1)]
def feetB:List (Int×Int):=[(8,1),(4,1),(16,1),(8,3),(2,1),(8,5)]
def fA(n:Nat):Int×Int:=(feetA[n % 16]?).getD (8,1)
def fB(n:Nat):Int×Int:=(feetB[n % 6]?).getD (8,1)
theorem zwh(n:Nat):feetA[n % 16]? = some (fA n):=by unfold fA;rw[Lz5 (show n % 16<feetA.length by rw[show feetA.length=16 from rfl];omega)];rfl
theorem zwf(n:Nat):feetB[n % 6]? = some (fB n):=by unfold fB;rw[Lz5 (show n % 6<feetB.length by rw[show feetB.length=6 from rfl];omega)];rfl
theorem zwg(n:Nat):fA n∈feetA:=Lz3 (zwh n)
theorem zhv(n:Nat):fB n∈feetB:=Lz3 (zwf n)
theorem zBv:∀p∈feetA,zaB p.1 p.2=0:=by trivial
theorem zBu:∀p∈feetB,zaB p.1 p.2=0:=by trivial
theorem zHa:(shSums.all fun s=>match xG s.g s.args ⟨.z,.nil⟩ bSums with|some v=>eqA v s.res|none=>false)=true:=by kernel_rfl
theorem zEY{s:CE.Sum}(hs:s∈shSums){xs:List DA}{d:DA}(hg:([135,136,137,138]:List Nat).any (Nat.beq s.g)=true)(ha:avs xs=some s.args)(hd:ofA s.res=some d):B s.g xs=some d:=by grind[zHa,zn6,zHC,zwO,zBj]
theorem ztu(k:Nat){s:CE.Sum}(hs:s∈shSums){xs:List DA}{d:DA}(hg:([135,136,137,138]:List Nat).any (Nat.beq s.g)=true)(ha:avs xs=some s.args)(hd:ofA s.res=some d):D k s.g xs=some d:=zdn (zEY hs hg ha hd)
theorem zxH{n:Nat}(h:n∈pows):zdy n∈shSums:=by grind[shSums]
theorem mem_of{n:Nat}(h:n∈pows):ofS n∈shSums:=by grind[shSums]
theorem zrN{x:Nat×Nat}(h:x∈dens){s:CE.Sum}(hs:s∈xP x):s∈shSums:=by grind[shSums]
theorem zxI{x:Nat×Nat×Nat}(h:x∈prs){s:CE.Sum}(hs:s∈yC x):s∈shSums:=by grind[shSums]
theorem zFl(k:Nat){n:Nat}(h:n∈pows):D k 136 [S1 (I6 (n:Int))]=some (S1 (St (dec n))):=ztu k (mem_of h) rfl rfl rfl
theorem zFm(k:Nat){n:Nat}(h:n∈pows):D k 135 [S1 (St (dec n)),S1 (I6 24)]=some (.tup [.one (St (dec (n^24))),.one (I6 0)]):=ztu k (zxH h) rfl rfl rfl
theorem zEn(k:Nat){x:Nat×Nat}(h:x∈dens):D k 137 [S1 (St (dec (x.1^24))),S1 (.str ⟨#[50]⟩)]=some (S1 (St (dec (lim x.1 0)))):=by
 have e:x.1^24*2=lim x.1 0:=by grind[lim]
 rw[<-e];exact ztu k (zrN h (Yzf ..)) rfl rfl rfl
theorem zEm(k:Nat){x:Nat×Nat}(h:x∈dens){j:Nat}(hj:j<x.2):D k 137 [S1 (St (dec (lim x.1 j))),S1 (.str ⟨#[52]⟩)]=some (S1 (St (dec (lim x.1 (j+1))))):=by
 have e:lim x.1 j*4=lim x.1 (j+1):=by
  show 2*x.1^24*4^j*4=2*x.1^24*4^(j+1)
  grind
 rw[<-e];exact ztu k (zrN h (Yze _ (List.mem_map.2 ⟨j,List.mem_range.2 hj,rfl⟩))) rfl rfl rfl
theorem zFk(k:Nat){x:Nat×Nat×Nat}(h:x∈prs){j:Nat}(hj:j<=x.2.2):D k 138 [S1 (St (dec (x.1^24))),S1 (St (dec (lim x.2.1 j)))]=some (S1 (I6 (zzo (x.1^24) (lim x.2.1 j)))):=
 ztu k (zxI h (List.mem_map.2 ⟨j,List.mem_range.2 (by omega),rfl⟩)) rfl rfl rfl
def upN:Nat->Nat->Nat->Int->Nat×Int
 |0,num,_,n=>(num,n)
 |f+1,num,den,n=>if num<den then upN f (num*2) den (n-12) else(num,n)
def dnN:Nat->Nat->Nat->Int->Nat×Int
 |0,_,den,n=>(den,n)
 |f+1,num,den,n=>if 2*den<=num then dnN f num (den*2) (n+12) else(den,n)
theorem zDB(den:Nat)(hd:den<=1000000):∀(f num:Nat) (n:Int),den<=(upN f num den n).1->-1000000<=n-12*(f:Int)->n<=1000000->
  zS (zhH (I6 (den:Int))) [I6 (num:Int),I6 n] []=some (.exit 0,[I6 ((upN f num den n).1:Int),I6 (upN f num den n).2],[]):=by
 intro f
 induction f with
 |zero=>grind[zr,zhH,zA,yJ,zi,zb,zm,upN]
 |succ f ih=>
  intro num n h h2 h3;unfold upN at h ⊢;by_cases hc:num<den
  .rw[Yzc hc]at h ⊢;have h1:decide ((num:Int)<(den:Int))=true:=zbN hc;have e1:zc .mul (I6 (num:Int)) (I6 2)=some (I6 ((num*2:Nat):Int)):=by
    grind[zlF]
   have e2:zc .sub (I6 n) (I6 12)=some (I6 (n-12)):=zci;have body:zhH (I6 (den:Int)) [I6 (num:Int),I6 n] []=some (.normal,[I6 ((num*2:Nat):Int),I6 (n-12)],[]):=by simp_all[zhH]
   grind[zE]
  .rw[Yza hc]
   grind[zr,zhH,zA,yJ,zi,zb,zm]
theorem zDE(a:DV)(num:Nat)(hd:num<=1000000):∀(f den:Nat) (n:Int),num<2*(dnN f num den n).1->n+12*(f:Int)<=1000000->-1000000<=n->0<den->den<=1000000->
  zS (zea [I6 (num:Int),a]) [I6 (den:Int),I6 n] []=some (.exit 2,[I6 ((dnN f num den n).1:Int),I6 (dnN f num den n).2],[]):=by
 intro f
 induction f with
 |zero=>
  intro den n h _ _ _ h5;have h:num<2*den:=h;have e1:zc .mul (I6 2) (I6 (den:Int))=some (I6 ((2*den:Nat):Int)):=by grind[zlF]
  grind[zr,zea,zA,yJ,xD,zb,zm,dnN]
 |succ f ih=>
  intro den n h h2 h3 h4 h5;unfold dnN at h ⊢;have e1:zc .mul (I6 2) (I6 (den:Int))=some (I6 ((2*den:Nat):Int)):=by grind[zlF]
  by_cases hc:2*den<=num
  .rw[Yzc hc]at h ⊢;have h1:decide (((2*den:Nat):Int)<=(num:Int))=true:=decide_eq_true (by omega);have e3:zc .mul (I6 (den:Int)) (I6 2)=some (I6 ((den*2:Nat):Int)):=by
    grind[zlF]
   have e2:zc .add (I6 n) (I6 12)=some (I6 (n+12)):=yG;have body:zea [I6 (num:Int),a] [I6 (den:Int),I6 n] []=some (.normal,[I6 ((den*2:Nat):Int),I6 (n+12)],[]):=by simp_all[zea]
   grind[zE]
  .rw[Yza hc]
   grind[zr,zea,zA,yJ,xD,zb,zm]
theorem zxd:(prs.all fun x=>(List.range x.2.2).all (fun j=>Nat.ble (Nat.succ (lim x.2.1 j)) (x.1^24))&&Nat.ble (x.1^24) (lim x.2.1 x.2.2))=true:=by kernel_rfl
theorem zqV:(prs.all fun x=>dens.any (fun y=>Nat.beq y.1 x.2.1&&Nat.ble x.2.2 y.2)&&pows.any (Nat.beq x.1)&&pows.any (Nat.beq x.2.1))=true:=by kernel_rfl
theorem zjl{n:Nat}{l:List Nat}(h:l.any (Nat.beq n)=true):n∈l:=by simp_all
theorem zDF(k:Nat)(x:Nat×Nat×Nat)(hx:x∈prs)(n:Int)(h1:-1000000<=n)(h2:n<=1000000)(hm:x.2.2<=100):∀(r j:Nat),j+r=x.2.2->
  zS (zgx (D k) [.one (St (dec (x.1^24))),.one (I6 0)]) [St (dec (lim x.2.1 j)),I6 (n+(j:Int))] []=some (.exit 4,[I6 (n+(x.2.2:Int))],[]):=by
 have hc:=YzJ.1 zxd x hx;have hdn:=YzJ.1 zqV x hx;simp only[LzC]at hc hdn;obtain⟨y,hy,ey⟩:=List.any_eq_true.1 hdn.1.1;simp only[LzC]at ey;have ey1:y.1=x.2.1:=Lz1 ey.1;have ey2:=Lz4 ey.2;intro r
 induction r with
 |zero=>
  intro j hj;have hj:j=x.2.2:=by omega
  subst hj;have c:=zFk k hx (LzB _);have hle:=Lz4 hc.2;have hs:decide ((0:Int)<zzo (x.1^24) (lim x.2.1 x.2.2))=false:=by
   unfold zzo;rw[show Nat.ble (Nat.succ (lim x.2.1 x.2.2)) (x.1^24)=false from by cases hb:Nat.ble (Nat.succ (lim x.2.1 x.2.2)) (x.1^24) with|false=>rfl|true=>have:=Lz4 hb;omega]
   grind
  grind[zr,zgx,zA,yJ,zsN,zmg,zR,zW,zb,zm]
 |succ r ih=>
  intro j hj;have c:=zFk k hx (show j<=x.2.2 by omega);have m:=zEm k hy (show j<y.2 by omega);rw[ey1]at m;have hlt:=Lz4 (YzJ.1 hc.1 j (List.mem_range.2 (by omega)));have hs:decide ((0:Int)<zzo (x.1^24) (lim x.2.1 j))=true:=by grind[zzo,Yzg]
  have ea:zc .add (I6 (n+(j:Int))) (I6 1)=some (I6 (n+((j+1:Nat):Int))):=by rw[show n+((j+1:Nat):Int)=n+(j:Int)+1 by omega];exact yG
  have body:zgx (D k) [.one (St (dec (x.1^24))),.one (I6 0)] [St (dec (lim x.2.1 j)),I6 (n+(j:Int))] []=some (.normal,[St (dec (lim x.2.1 (j+1))),I6 (n+((j+1:Nat):Int))],[]):=by simp_all[zgx]
  grind[zE]
def zv7(f g:Int×Int):Nat:=(g.1*f.2).toNat
def zpJ(f g:Int×Int):Nat:=(g.2*f.1).toNat
def shU(f g:Int×Int):Nat×Int:=upN 20 (zv7 f g) (zpJ f g) 0
def shD(f g:Int×Int):Nat×Int:=dnN 20 (shU f g).1 (zpJ f g) (shU f g).2
def shM(f g:Int×Int):Nat:=((prs.find? fun x=>Nat.beq x.1 (shU f g).1&&Nat.beq x.2.1 (shD f g).1).map fun x=>x.2.2).getD 0
def shf(f g:Int×Int):Int:=(shD f g).2+(shM f g:Int)
def zzZ(f g:Int×Int):Bool:=
 decide (0<=g.1*f.2)&&decide (0<g.2*f.1)&&Nat.ble (zpJ f g) (shU f g).1&&Nat.ble (Nat.succ (shU f g).1) (2*(shD f g).1)&&(prs.any fun x=>Nat.beq x.1 (shU f g).1&&Nat.beq x.2.1 (shD f g).1&&Nat.beq x.2.2 (shM f g))
 && Nat.ble (zpJ f g) 1000000&&Nat.ble (zv7 f g) 1000000&&Nat.ble (shU f g).1 1000000&&Nat.ble (shM f g) 100&&decide (-1000<=(shU f g).2)&&decide ((shU f g).2<=1000)&&decide (-1000<=(shD f g).2)&&decide ((shD f g).2<=1000)&&decide (-100<=shf f g)&&decide (shf f g<=100)
theorem zzX:(feetB.all fun f=>feetA.all fun g=>zzZ f g)=true:=by kernel_rfl
structure Zy (f g:Int×Int):Prop where
 a:0<=g.1*f.2
 b:0<g.2*f.1
 c:zpJ f g<=(shU f g).1
 d:(shU f g).1<2*(shD f g).1
 e:∃x∈prs,x.1=(shU f g).1/\x.2.1=(shD f g).1/\x.2.2=shM f g
 f1:zpJ f g<=1000000
 f2:zv7 f g<=1000000
 f3:(shU f g).1<=1000000
 f4:shM f g<=100
 g1:-1000<=(shU f g).2
 g2:(shU f g).2<=1000
 g3:-1000<=(shD f g).2
 g4:(shD f g).2<=1000
 h1:-100<=shf f g
 h2:shf f g<=100
theorem zqq{f g:Int×Int}(hf:f∈feetB)(hg:g∈feetA):Zy f g:=by have h:=YzJ.1 (YzJ.1 zzX f hf) g hg;unfold zzZ at h;simp only[LzC,Yzo]at h;obtain⟨⟨⟨⟨⟨⟨⟨⟨⟨⟨⟨⟨⟨⟨a,b⟩,c⟩,d⟩,e⟩,f1⟩,f2⟩,f3⟩,f4⟩,g1⟩,g2⟩,g3⟩,g4⟩,h1⟩,h2⟩:=h;obtain⟨x,hx,hq⟩:=List.any_eq_true.1 e;simp only[LzC]at hq;exact⟨a,b,Lz4 c,Lz4 d,⟨x,hx,Lz1 hq.1.1,Lz1 hq.1.2,Lz1 hq.2⟩,Lz4 f1,Lz4 f2,Lz4 f3,Lz4 f4,g1,g2,g3,g4,h1,h2⟩
theorem zqp(f g:Int×Int)(hf:f∈feetB)(hg:g∈feetA):-100<=shf f g/\shf f g<=100:=⟨(zqq hf hg).h1,(zqq hf hg).h2⟩
theorem zF0(k:Nat)(f g:Int×Int)(hf:f∈feetB)(hg:g∈feetA):D (k+1) 121 [SA (enF f),SA (enF g)]=some (S1 (I6 (shf f g))):=by
 have H:=zqq hf hg;obtain⟨x,hx,x1,x2,x3⟩:=H.e;have a1:g.1*f.2=((zv7 f g:Nat):Int):=by unfold zv7;have:=H.a;omega
 have a2:g.2*f.1=((zpJ f g:Nat):Int):=by unfold zpJ;have:=H.b;omega
 have hb:=H.b;rw[a2]at hb;have b1:=H.f1;have b2:=H.f2;have b3:=H.f3;have b4:=H.f4;have c1:=H.g1;have c2:=H.g2;have c3:=H.g3;have c4:=H.g4
 have m1:zc .mul (I6 g.1) (I6 f.2)=some (I6 ((zv7 f g:Nat):Int)):=by grind[zlF]
 have m2:zc .mul (I6 g.2) (I6 f.1)=some (I6 ((zpJ f g:Nat):Int)):=by grind[zlF]
 have lu:=zDB (zpJ f g) b1 20 (zv7 f g) 0 H.c (by omega) (by omega);have ld:=zDE (I6 (shU f g).2) (shU f g).1 b3 20 (zpJ f g) (shU f g).2 H.d (by omega) (by omega) (by omega) b1;have lc:=zDF k x hx (shD f g).2 (by omega) (by omega) (by omega) x.2.2 0 (by omega);have hdn:=YzJ.1 zqV x hx;simp only[LzC]at hdn;obtain⟨y,hy,ey⟩:=List.any_eq_true.1 hdn.1.1;simp only[LzC]at ey;have ey1:y.1=x.2.1:=Lz1 ey.1;have o1:=zFl k (zjl hdn.1.2);have p1:=zFm k (zjl hdn.1.2);have o2:=zFl k (zjl hdn.2);have p2:=zFm k (zjl hdn.2);have u0:=zEn k hy;rw[ey1]at u0;rw[x1]at o1 p1 lc;rw[x2]at o2 p2 u0 lc;rw[x3]at lc;rw[show (shD f g).2+((0:Nat):Int)=(shD f g).2 by omega]at lc;have hU:upN 20 (zv7 f g) (zpJ f g) 0=shU f g:=rfl;have hD:dnN 20 (shU f g).1 (zpJ f g) (shU f g).2=shD f g:=rfl;rw[hU]at lu;rw[hD]at ld;unfold enF;rw[zHp];unfold zEJ;have bt:∀{β:Type} (a b:DV) (K:List DS->Option β),bT [none,none] (some (.tup [.one a,.one b])) K=K [.one a,.one b]:=fun _ _ _=>rfl;simp only[m1,m2,zb];rw[lu];simp only[yi,Yzq,Yzb,zA,yJ];rw[ld];simp only[yi,Yzq,Yzb,zA,yJ,o1,o2,zR,p1,p2,bt,zsN,zmg,u0];rw[lc];rfl
theorem zF1(k:Nat)(f g:Int×Int)(hf:f∈feetB)(hg:g∈feetA):D (k+4) 120 [SA (enF f),SA (enF g)]=some (S1 (I6 0)):=by grind[t90,zBu,zBv,enF,zHq,zEK,zR,z7,zb,zm]
theorem zE0(k:Nat)(f g:Int×Int)(hf:f∈feetB)(hg:g∈feetA):D (k+5) 104 [SA (enF f),SA (enF g)]=some (.tup [.one (I6 (shf f g)),.one (I6 0)]):=by
 have c1:=zF1 k f g hf hg
 grind[zF0,enF,zHy,zER,zR,z7,zb,zm]
end Go.Proofs.Tryz.Kn
end
section
namespace Go.Proofs.Tryz.Kn
open Go Go.CE Go.PE
def eqB(a b:ByteArray):Bool:=a.data.toList==b.data.toList
def enN(s:ByteArray):List DV:=[St s,Bo true]
theorem zsI(a b:ByteArray):zk2 (.inl 2) (.one (St a)) (.one (St b))=some (eqB a b):=rfl
theorem zbT(s:ByteArray):∀ns:List ByteArray,ziS (.inl 2) 1048576 (.one (St s)) (ns.map enN)=some (if ns.any (eqB s)=true then some (.one (Bo true)) else none)
 | []=>rfl
 |n::ns=>by
  have e:zk2 (.inl 2) (.one (St s)) (kD 1048576 (enN n))=some (eqB s n):=rfl;have v:vD 1048576 (enN n)=.one (Bo true):=rfl;rw[Yzw,ziS,e,v,zbT s ns,List.any_cons]
  grind
theorem zcR(s:ByteArray):∀ns:List ByteArray,ns.any (eqB s)=false->ztx (.inl 2) 1048576 (.one (St s)) [St s,Bo true] (ns.map enN)=some ((ns++[s]).map enN)
 | [],_=>rfl
 |n::ns,h=>by simp only[List.any_cons,Bool.or_eq_false_iff]at h;have e:zk2 (.inl 2) (.one (St s)) (kD 1048576 (enN n))=some (eqB s n):=rfl;simp only[Yzw,ztx,e,h.1,zcR s ns h.2];rfl
theorem zxM(b:Bool):dsO (lkD (.one (Bo false)) (if b=true then some (DS.one (Bo true)) else none))=Bo b:=by cases b<;>rfl
structure Cpl where
 name:ByteArray
 src:Int
 dst:Int
 shift:Int
 thr:Bool
def enC(c:Cpl):List DV:=[St c.name,I6 c.src,I6 c.dst,I6 c.shift,Bo c.thr]
def enK(k:Int×Int):List DV:=[I6 k.1,I6 k.2]
theorem t96(k:Nat)(x c:Cpl):D (k+1) 96 [SA (enC x),S1 (.fp (enC c) 0)]=some (S1 (Bo (eqB x.name c.name))):=by unfold enC;rw[D96];rfl
theorem zGE(k:Nat)(c:Cpl)(l:Sl Cpl)(hl:l.els.length<=9223372036854775807):∀(r:List Cpl) (i:Nat),l.els.drop i=r->
  zS (zkW (D (k+1)) (I6 (l.els.length:Int)) (enL 5 enC l) (.fn 96 [enC c])) [I6 (i:Int)] []=some (found (q9 (fun x=>eqB x.name c.name) r i)):=by
 intro r
 induction r with
 |nil=>
  intro i h;refine zr ?_
  grind[zkW,zA,zi,zb,wq,z6,zm]
 |cons x r ih=>
  intro i h;have h1:=yn h;have ea:zc .add (I6 (i:Int)) (I6 1)=some (I6 ((i+1:Nat):Int)):=yG;have cx:zjr (D (k+1)) (.fn 96 [enC c]) [SA [atD (enC x) 0,atD (enC x) 1,atD (enC x) 2,atD (enC x) 3,atD (enC x) 4]]=some (S1 (Bo (eqB x.name c.name))):=t96 k x c;have body:zkW (D (k+1)) (I6 (l.els.length:Int)) (enL 5 enC l) (.fn 96 [enC c]) [I6 (i:Int)] []=some (if eqB x.name c.name then(.ret,[I6 (i:Int)],[]) else(.normal,[I6 ((i+1:Nat):Int)],[])):=by
   simp only[zkW,zA,zi,zb,zbN h1,zm,if_true,zX h,cx,zR,ea]
   grind
  cases hc:eqB x.name c.name with
  |true=>grind[zz,q9,found]
  |false=>grind[zE,zJ,q9]
theorem t95(k:Nat)(c:Cpl)(l:Sl Cpl)(hl:l.els.length<=9223372036854775807):D (k+3) 95 [S1 (enL 5 enC l),S1 (.fn 96 [enC c])]=some (S1 (Bo (l.els.any fun x=>eqB x.name c.name))):=by
 have e:D (k+2) 113 [S1 (enL 5 enC l),S1 (.fn 96 [enC c])]=some (S1 (I6 (match q9 (fun x=>eqB x.name c.name) l.els 0 with|some i=>(i:Int)|none=>-1))):=by rw[zHr];unfold zEL;have:=zGE k c l hl l.els 0 rfl;simp only[zg,zb];rw[show (I6 0:DV)=I6 ((0:Nat):Int) from rfl,this];cases q9 (fun x=>eqB x.name c.name) l.els 0<;>rfl
 rw[D95];unfold P95;rw[e,<-uT (fun x=>eqB x.name c.name) l.els 0];cases q9 (fun x=>eqB x.name c.name) l.els 0<;>simp_all
def zmn(n:Nat):List Cpl->List Cpl->Int
 |_,[]=>0
 |p,c::r=>
  if isName c.name=false then 8 else if p.any (fun x=>eqB x.name c.name)=true then 9 else if c.src<0 then 10 else if (n:Int)<=c.src then 10 else if c.dst<0 then 10 else if (n:Int)<=c.dst then 10
  else if c.shift < -127 then 3 else if 127<c.shift then 3 else if c.src=c.dst/\c.shift=0 then 7 else zmn n (p++[c]) r
def zof(ks:List (Int×Int))(l:List Cpl):Int:=
 if 8<ks.length then 4 else if 40<l.length then 4 else if ks.any (fun k=>right k.1 k.2 != 0)=true then 23 else zmn ks.length [] l
theorem l72(k:Nat)(ks:Sl (Int×Int))(l:List Cpl)(hl:l.length<=9223372036854775807):∀(r:List Cpl) (i:Nat),l.drop i=r->
  zS (zkJ (D (k+3)) (I6 (l.length:Int)) (enL 5 enC (some l)) (enL 2 enK ks)) [I6 (i:Int)] []=some (zhz 2 (zmn ks.els.length (l.take i) r)):=by
 intro r
 induction r with
 |nil=>
  intro i h;refine zr ?_
  grind[zkJ,zA,zi,zb,wq,z6,zm]
 |cons x r ih=>
  intro i h;have h1:=yn h;have ea:zc .add (I6 (i:Int)) (I6 1)=some (I6 ((i+1:Nat):Int)):=yG;have ix:yb 5 (enL 5 enC (some l)) (I6 (i:Int))=some (enC x):=zX (v:=some l) h _;have sl:za0 5 (enL 5 enC (some l)) none (some (I6 (i:Int)))=some (enL 5 enC (some (l.take i))):=zfo (by omega);have c:=t95 k x (some (l.take i)) (by grind);have cn:=t68 (k+1) x.name;simp only[enC,yW]at c;have body:zkJ (D (k+3)) (I6 (l.length:Int)) (enL 5 enC (some l)) (enL 2 enK ks) [I6 (i:Int)] [] =
    some (if isName x.name=false then(.ret,[I6 8],[]) else if (l.take i).any (fun y=>eqB y.name x.name)=true then(.ret,[I6 9],[]) else if x.src<0 then(.ret,[I6 10],[]) else if (ks.els.length:Int)<=x.src then(.ret,[I6 10],[])
     else if x.dst<0 then(.ret,[I6 10],[]) else if (ks.els.length:Int)<=x.dst then(.ret,[I6 10],[]) else if x.shift < -127 then(.ret,[I6 3],[]) else if 127<x.shift then(.ret,[I6 3],[])
     else if x.src=x.dst/\x.shift=0 then(.ret,[I6 7],[]) else(.normal,[I6 ((i+1:Nat):Int)],[])):=by
   simp only[zkJ,zA,zi,zb,zbN h1,zm,if_true,ix,enC,y4,ww,zg,xD,zW,xO,sl,c,cn,zR,zBQ,xI,ea,Yzo];cases isName x.name<;>grind
  have hn:l.take (i+1)=l.take i++[x]:=by grind
  unfold zmn;by_cases a0:isName x.name=false
  .rw[Yzc a0]at body ⊢;rw[zz body];rfl
  rw[Yza a0]at body ⊢;by_cases a1:(l.take i).any (fun y=>eqB y.name x.name)=true
  .rw[Yzc a1]at body ⊢;rw[zz body];rfl
  rw[Yza a1]at body ⊢;by_cases a2:x.src<0
  .rw[Yzc a2]at body ⊢;rw[zz body];rfl
  rw[Yza a2]at body ⊢;by_cases a3:(ks.els.length:Int)<=x.src
  .rw[Yzc a3]at body ⊢;rw[zz body];rfl
  rw[Yza a3]at body ⊢;by_cases a4:x.dst<0
  .rw[Yzc a4]at body ⊢;rw[zz body];rfl
  rw[Yza a4]at body ⊢;by_cases a5:(ks.els.length:Int)<=x.dst
  .rw[Yzc a5]at body ⊢;rw[zz body];rfl
  rw[Yza a5]at body ⊢;by_cases a6:x.shift < -127
  .rw[Yzc a6]at body ⊢;rw[zz body];rfl
  rw[Yza a6]at body ⊢;by_cases a7:127<x.shift
  .rw[Yzc a7]at body ⊢;rw[zz body];rfl
  rw[Yza a7]at body ⊢;by_cases a8:x.src=x.dst/\x.shift=0
  .rw[Yzc a8]at body ⊢;rw[zz body];rfl
  rw[Yza a8]at body ⊢
  grind[zE,zJ]
theorem zGz(k:Nat)(ks:Sl (Int×Int))(hl:ks.els.length<=9223372036854775807):∀(r:List (Int×Int)) (i:Nat),ks.els.drop i=r->
  zS (ztg (D (k+1)) (I6 (ks.els.length:Int)) (enL 2 enK ks)) [I6 (i:Int)] []=some (if r.any (fun k=>right k.1 k.2 != 0)=true then(.ret,[I6 23],[]) else(.exit 0,[],[])):=by
 intro r
 induction r with
 |nil=>grind[zr,ztg,zA,zi,zb,wq,z6,zm]
 |cons x r ih=>
  intro i h;have h1:=yn h;have ea:zc .add (I6 (i:Int)) (I6 1)=some (I6 ((i+1:Nat):Int)):=yG;have c:=t93 k x.1 x.2;have body:ztg (D (k+1)) (I6 (ks.els.length:Int)) (enL 2 enK ks) [I6 (i:Int)] []=some (if right x.1 x.2=0 then(.normal,[I6 ((i+1:Nat):Int)],[]) else(.ret,[I6 23],[])):=by
   simp only[ztg,zA,zi,zb,zbN h1,zm,if_true,zX h,enK,y4,ww,c,zR,z7,ea]
   grind
  by_cases hc:right x.1 x.2=0
  .rw[Yzc hc]at body;rw[zE body,ih (i+1) (zJ h),List.any_cons,hc];rfl
  .rw[Yza hc]at body;rw[zz body,Yzc (by simp[hc])]
theorem t72(k:Nat)(ks:Sl (Int×Int))(l:Sl Cpl)(hk:ks.els.length<=9223372036854775807)(hl:l.els.length<=9223372036854775807):D (k+4) 72 [S1 (enL 2 enK ks),S1 (enL 5 enC l)]=some (S1 (I6 (zof ks.els l.els))):=by
 rw[D72];unfold P72 zof;have ck:=zGz (k+2) ks hk ks.els 0 rfl;simp only[zg,zb,zW,zm];rw[show (I6 0:DV)=I6 ((0:Nat):Int) from rfl,ck];by_cases h1:8<ks.els.length
 .grind
 have h2:¬((8:Int)<(ks.els.length:Int)):=by omega
 by_cases h3:40<l.els.length
 .grind
 have h4:¬((40:Int)<(l.els.length:Int)):=by omega
 simp only[h1,h2,h3,h4,decide_false,Yzp,if_false];by_cases h5:ks.els.any (fun k=>right k.1 k.2 != 0)=true
 .simp_all
 rw[Yza h5,Yza h5];simp only[yi,Yzq,Yzb];cases l with
 |none=>rw[zr (id:=2) (L':=[]) (M':=[]) (by rfl)];rfl
 |some l=>have:=l72 k ks l hl l 0 rfl;rw[show Sl.els (some l:Sl Cpl)=l from rfl,this,List.take_zero];unfold zhz;by_cases h6:zmn ks.els.length [] l=0<;>simp[h6]
structure Zo where
 name:ByteArray
 pedal:Bool
 low:Int
 high:Int
 stops:Sl Zt
def enV(d:Zo):List DV:=[St d.name,Bo d.pedal,I6 d.low,I6 d.high,enL 4 vY d.stops]
structure Zo.ok (d:Zo):Prop where
 len:d.stops.els.length<=9223372036854775807
 stops:∀s∈d.stops.els,s.ok
structure Org where
 name:ByteArray
 ranks:Sl Zm
 divs:Sl Zo
 cpls:Sl Cpl
def enO(o:Org):List DV:=[St o.name,enL 6 enR o.ranks,enL 5 enV o.divs,enL 5 enC o.cpls]
structure Org.ok (o:Org):Prop where
 rl:o.ranks.els.length<=9223372036854775807
 ranks:∀r∈o.ranks.els,zg3 r
 dl:o.divs.els.length<=9223372036854775807
 divs:∀d∈o.divs.els,d.ok
 cl:o.cpls.els.length<=9223372036854775807
def zcj(x:Place):List Zt->List ByteArray->Int
 | [],_=>0
 |s::r,ns=>if ji x s≠0 then ji x s else if ns.any (eqB s.name)=true then 9 else zcj x r (ns++[s.name])
def zoS(id:Nat)(e:Int)(m:List OC):PX:=if e≠0 then(.ret,[I6 e],m) else(.exit id,[],m)
theorem l71(k:Nat)(x:Place)(hx:x.ok)(l:Sl Zt)(hl:l.els.length<=9223372036854775807)(hs:∀s∈l.els,s.ok):∀(r:List Zt) (i:Nat) (ns:List ByteArray),l.els.drop i=r->
  ∃m,zS (zth (D (k+7)) (I6 (l.els.length:Int)) (enL 4 vY l) (enL 6 enR x.ranks) (I6 x.low) (I6 x.high)) [I6 (i:Int)] [some (ns.map enN)]=some (zoS 0 (zcj x r ns) m):=by
 intro r
 induction r with
 |nil=>intro i ns h;refine⟨[some (ns.map enN)],zr ?_⟩;simp only[zth,zA,zi,zb,wq (z6 h),zm];rfl
 |cons s r ih=>
  intro i ns h;have h1:=yn h;have ea:zc .add (I6 (i:Int)) (I6 1)=some (I6 ((i+1:Nat):Int)):=yG;have c:=t94 k x s hx (hs s (Lz3 (ye h)));simp only[enP,vY]at c;have body:∃m,zth (D (k+7)) (I6 (l.els.length:Int)) (enL 4 vY l) (enL 6 enR x.ranks) (I6 x.low) (I6 x.high) [I6 (i:Int)] [some (ns.map enN)] =
    some (if ji x s≠0 then(.ret,[I6 (ji x s)],m) else if ns.any (eqB s.name)=true then(.ret,[I6 9],m) else(.normal,[I6 ((i+1:Nat):Int)],[some ((ns++[s.name]).map enN)])):=by
   refine⟨[some (ns.map enN)],?_⟩;simp only[zth,zA,yU,zi,zb,zbN h1,zm,if_true,zX h,vY,y4,ww,c,zR,z7,zcy,zsI,zbT,zxM,ea];by_cases hz:ji x s=0
   .cases hb:ns.any (eqB s.name)<;>simp_all[zcR]
   grind
  obtain⟨m,body⟩:=body;unfold zcj;by_cases a1:ji x s≠0
  .rw[Yzc a1]at body ⊢;exact⟨m,by grind[zz,zoS]⟩
  rw[Yza a1]at body ⊢;by_cases a2:ns.any (eqB s.name)=true
  .rw[Yzc a2]at body ⊢;exact⟨m,by rw[zz body];rfl⟩
  rw[Yza a2]at body ⊢;rw[zE body];exact ih (i+1) _ (zJ h)
def zce(rs:Sl Zm)(d:Zo):Int:=if right d.low d.high≠0 then right d.low d.high else if 60<d.stops.els.length then 4 else zcj ⟨rs,d.low,d.high⟩ d.stops.els []
theorem t71(k:Nat)(o:Org)(ho:o.ok)(d:Zo)(hd:d.ok):D (k+8) 71 [SA (enO o),SA (enV d)]=some (S1 (I6 (zce o.ranks d))):=by
 have hx:Place.ok ⟨o.ranks,d.low,d.high⟩:=⟨ho.rl,ho.ranks⟩;obtain⟨m,l⟩:=l71 k ⟨o.ranks,d.low,d.high⟩ hx d.stops hd.len hd.stops d.stops.els 0 [] rfl;have c:=t93 (k+6) d.low d.high;unfold enO enV;rw[D71];unfold P71 zce;simp only[c,zR,z7,zb,zm,zg,zW];by_cases h1:right d.low d.high=0
 .by_cases h2:60<d.stops.els.length
  .grind
  .have h3:¬((60:Int)<(d.stops.els.length:Int)):=by omega
   simp only[List.map_nil]at l;rw[show (I6 0:DV)=I6 ((0:Nat):Int) from rfl,l];unfold zoS;by_cases h4:zcj ⟨o.ranks,d.low,d.high⟩ d.stops.els []=0<;>simp[h1,h2,h3,h4]
 grind
def zaZ:List Zm->List ByteArray->Int
 | [],_=>0
 |x::r,ns=>if xe x≠0 then xe x else if ns.any (eqB x.name)=true then 9 else zaZ r (ns++[x.name])
theorem l44(k:Nat)(l:Sl Zm)(hl:l.els.length<=9223372036854775807)(hs:∀s∈l.els,zg3 s):∀(r:List Zm) (i:Nat) (ns:List ByteArray),l.els.drop i=r->
  ∃m,zS (ztl (D (k+5)) (I6 (l.els.length:Int)) (enL 6 enR l)) [I6 (i:Int)] [some (ns.map enN)]=some (zoS 1 (zaZ r ns) m):=by
 intro r
 induction r with
 |nil=>intro i ns h;refine⟨[some (ns.map enN)],zr ?_⟩;simp only[ztl,zA,zi,zb,wq (z6 h),zm];rfl
 |cons s r ih=>
  intro i ns h;have h1:=yn h;have ea:zc .add (I6 (i:Int)) (I6 1)=some (I6 ((i+1:Nat):Int)):=yG;have c:=t69 k s (hs s (Lz3 (ye h)));simp only[enR]at c;have body:∃m,ztl (D (k+5)) (I6 (l.els.length:Int)) (enL 6 enR l) [I6 (i:Int)] [some (ns.map enN)] =
    some (if xe s≠0 then(.ret,[I6 (xe s)],m) else if ns.any (eqB s.name)=true then(.ret,[I6 9],m) else(.normal,[I6 ((i+1:Nat):Int)],[some ((ns++[s.name]).map enN)])):=by
   refine⟨[some (ns.map enN)],?_⟩;simp only[ztl,zA,yU,zi,zb,zbN h1,zm,if_true,zX h,enR,y4,ww,c,zR,z7,zcy,zsI,zbT,zxM,ea];by_cases hz:xe s=0
   .cases hb:ns.any (eqB s.name)<;>simp_all[zcR]
   grind
  obtain⟨m,body⟩:=body;unfold zaZ;by_cases a1:xe s≠0
  .rw[Yzc a1]at body ⊢;exact⟨m,by grind[zz,zoS]⟩
  rw[Yza a1]at body ⊢;by_cases a2:ns.any (eqB s.name)=true
  .rw[Yzc a2]at body ⊢;exact⟨m,by rw[zz body];rfl⟩
  rw[Yza a2]at body ⊢;rw[zE body];exact ih (i+1) _ (zJ h)
def zdm(rs:Sl Zm):List Zo->List ByteArray->Int
 | [],_=>0
 |d::r,ns=>if isName d.name=false then 8 else if ns.any (eqB d.name)=true then 9 else if zce rs d≠0 then zce rs d else zdm rs r (ns++[d.name])
def keyOf(d:Zo):Int×Int:=(d.low,d.high)
def grow{α:Type}(l:List α):Sl α:=match l with | []=>none|_=>some l
theorem zN{α:Type}(l:List α):(grow l).els=l:=by cases l<;>rfl
theorem xx{α:Type}(l:List α)(x:α):grow (l++[x])=some ((grow l).els++[x]):=by rw[zN];cases l<;>rfl
theorem zDR(k:Nat)(o:Org)(ho:o.ok)(hle:o.divs.els.length<=8):∀(r:List Zo) (i:Nat) (ns:List ByteArray),o.divs.els.drop i=r->
  ∃m,zS (zkP (D (k+8)) (I6 (o.divs.els.length:Int)) (enL 5 enV o.divs) (St o.name) (enL 6 enR o.ranks) (enL 5 enC o.cpls)) [I6 (i:Int)] [ocL enK (grow ((o.divs.els.take i).map keyOf)),some (ns.map enN)] =
   some (if zdm o.ranks r ns≠0 then(.ret,[I6 (zdm o.ranks r ns)],m) else(.exit 4,[],[ocL enK (grow (o.divs.els.map keyOf)),m.headD none])):=by
 intro r
 induction r with
 |nil=>intro i ns h;refine⟨[some (ns.map enN)],zr ?_⟩;have:o.divs.els.take i=o.divs.els:=List.take_of_length_le (z6 h);simp only[zkP,zA,zi,zb,wq (z6 h),zm,this];rfl
 |cons d r ih=>
  intro i ns h;have h1:=yn h;have ea:zc .add (I6 (i:Int)) (I6 1)=some (I6 ((i+1:Nat):Int)):=yG;have c:=t71 k o ho d (ho.divs d (Lz3 (ye h)));have cn:=t68 (k+6) d.name;simp only[enO,enV]at c;have hn:o.divs.els.take (i+1)=o.divs.els.take i++[d]:=by grind
  have hlen:((grow ((o.divs.els.take i).map keyOf)).els).length=i:=by grind[zN]
  have ef:fits 16 ((grow ((o.divs.els.take i).map keyOf)).els.length+1)=true:=xf (by decide) (by omega);have body:∃m,zkP (D (k+8)) (I6 (o.divs.els.length:Int)) (enL 5 enV o.divs) (St o.name) (enL 6 enR o.ranks) (enL 5 enC o.cpls) [I6 (i:Int)] [ocL enK (grow ((o.divs.els.take i).map keyOf)),some (ns.map enN)] =
    some (if isName d.name=false then(.ret,[I6 8],m) else if ns.any (eqB d.name)=true then(.ret,[I6 9],m) else if zce o.ranks d≠0 then(.ret,[I6 (zce o.ranks d)],m)
     else(.normal,[I6 ((i+1:Nat):Int)],[ocL enK (grow ((o.divs.els.take (i+1)).map keyOf)),some ((ns++[d.name]).map enN)])):=by
   rw[hn,Yye,Yzw,List.map_nil,xx];simp only[zkP,zA,yU,uC,zi,zb,zbN h1,zm,if_true,zX h,enV,y4,ww,c,cn,zR,xI,z7,zcy,zsI,zbT,zxM,ea,xQ,Yzh,Yzv,ef,xM,xg];cases isName d.name with
   |false=>simp
   |true=>
    cases hb:ns.any (eqB d.name) with
    |true=>simp
    |false=>
     refine⟨[some ((ns++[d.name]).map enN)],?_⟩
     grind[wj,enK,keyOf,zcR,zb]
  obtain⟨m,body⟩:=body;unfold zdm;by_cases a0:isName d.name=false
  .simp only[Yzc a0]at body ⊢;grind[zz]
  simp only[Yza a0]at body ⊢;by_cases a1:ns.any (eqB d.name)=true
  .simp only[Yzc a1]at body ⊢;grind[zz]
  simp only[Yza a1]at body ⊢;by_cases a2:zce o.ranks d≠0
  .simp only[Yzc a2]at body ⊢;grind[zz]
  simp only[Yza a2]at body ⊢;rw[zE body];exact ih (i+1) _ (zJ h)
def za1(o:Org):Int:=
 if isName o.name=false then 8 else if 60<o.ranks.els.length then 4 else if zaZ o.ranks.els []≠0 then zaZ o.ranks.els [] else if o.divs.els.length=0 then 13 else if 8<o.divs.els.length then 4
 else if zdm o.ranks o.divs.els []≠0 then zdm o.ranks o.divs.els [] else zof (o.divs.els.map keyOf) o.cpls.els
theorem t44(k:Nat)(o:Org)(ho:o.ok):D (k+9) 44 [SA (enO o)]=some (S1 (I6 (za1 o))):=by
 obtain⟨m,l⟩:=l44 (k+3) o.ranks ho.rl ho.ranks o.ranks.els 0 [] rfl;have cn:=t68 (k+6) o.name;unfold enO;rw[D44];unfold P44 za1;simp only[cn,zR,xI,z7,zb,zm,zg,zW,xO];cases isName o.name with
 |false=>rfl
 |true=>
  by_cases h1:60<o.ranks.els.length
  .grind
  have h2:¬((60:Int)<(o.ranks.els.length:Int)):=by omega
  simp only[List.map_nil]at l;simp only[h1,h2,decide_false,Yyo,Yzp,if_false,Bool.true_eq_false];rw[show (I6 0:DV)=I6 ((0:Nat):Int) from rfl,l];unfold zoS;by_cases h3:zaZ o.ranks.els []≠0
  .simp_all
  simp only[Yza h3,yi,Yzq,Yzb];by_cases h4:o.divs.els.length=0
  .simp[h4]
  have h5:¬((o.divs.els.length:Int)=((0:Nat):Int)):=by omega
  by_cases h6:8<o.divs.els.length
  .grind
  have h7:¬((8:Int)<(o.divs.els.length:Int)):=by omega
  obtain⟨m2,l2⟩:=zDR k o ho (by omega) o.divs.els 0 [] rfl;simp only[List.take_zero,List.map_nil]at l2;rw[show ocL enK (grow ([]:List (Int×Int)))=none from rfl]at l2;have h9:((o.divs.els.length:Int)==0)=false:=by grind
  simp only[h4,h6,h7,h9,decide_false,Yzp,if_false];rw[l2];by_cases h8:zdm o.ranks o.divs.els []≠0
  .simp_all
  have cc:=t72 (k+4) (grow (o.divs.els.map keyOf)) o.cpls (by grind[zN]) ho.cl;simp_all[zN,zEA]
end Go.Proofs.Tryz.Kn
end
section
namespace Go.Proofs.Tryz.Kn
open Go Go.CE Go.PE
structure RPl where
 tone:Nat
 feet:Nat
 first:Int
 pipes:Nat
 w0:Nat
 w1:Nat
 w2:Nat
 w3:Nat
 w4:Nat
structure RPl.ok (r:RPl):Prop where
 tone:r.tone<256
 feet:r.feet<256
 f1:-128<=r.first
 f2:r.first<=127
 pipes:r.pipes<256
 w0:r.w0<256
 w1:r.w1<256
 w2:r.w2<256
 w3:r.w3<256
 w4:r.w4<256
def zga(r:RPl):List DV:=[U8 (r.tone:Int),U8 (r.feet:Int),.int .i8 r.first,U8 (r.pipes:Int),U8 (r.w0:Int),U8 (r.w1:Int),U8 (r.w2:Int),U8 (r.w3:Int),U8 (r.w4:Int)]
structure Pul where
 rank:Nat
 feet:Nat
 kind:Nat
 at_:Nat
structure Pul.ok (x:Pul):Prop where
 rank:x.rank<256
 feet:x.feet<256
 kind:x.kind<256
 at_:x.at_<256
def zma(x:Pul):List DV:=[U8 (x.rank:Int),U8 (x.feet:Int),U8 (x.kind:Int),U8 (x.at_:Int)]
structure Boa where
 low:Nat
 keys:Nat
 pedal:Bool
 stops:Sl Pul
structure Boa.ok (b:Boa):Prop where
 low:b.low<256
 keys:b.keys<256
 len:b.stops.els.length<=9223372036854775807
 stops:∀x∈b.stops.els,x.ok
def uM(b:Boa):List DV:=[U8 (b.low:Int),U8 (b.keys:Int),Bo b.pedal,enL 4 zma b.stops]
structure Lnk where
 src:Nat
 dst:Nat
 shift:Int
 thr:Bool
structure Lnk.ok (l:Lnk):Prop where
 src:l.src<256
 dst:l.dst<256
 s1:-128<=l.shift
 s2:l.shift<=127
def zkp(l:Lnk):List DV:=[U8 (l.src:Int),U8 (l.dst:Int),.int .i8 l.shift,Bo l.thr]
structure Pln where
 ranks:Sl RPl
 divs:Sl Boa
 cpls:Sl Lnk
structure Pln.ok (p:Pln):Prop where
 rl:p.ranks.els.length<=9223372036854775807
 ranks:∀x∈p.ranks.els,x.ok
 dl:p.divs.els.length<=9223372036854775807
 divs:∀x∈p.divs.els,x.ok
 cl:p.cpls.els.length<=9223372036854775807
 cpls:∀x∈p.cpls.els,x.ok
def zmb(p:Pln):List DV:=[enL 9 zga p.ranks,enL 4 uM p.divs,enL 4 zkp p.cpls]
def zpF(l:List Boa):Bool:=l.all fun b=>decide (b.stops.els.length<=3)
def zeG(p:Pln):Bool:=decide (1<=p.ranks.els.length)&&decide (p.ranks.els.length<=3)&&decide (1<=p.divs.els.length)&&decide (p.divs.els.length<=3)&&decide (p.cpls.els.length<=3)&&zpF p.divs.els
theorem l56(l:Sl Boa)(hl:l.els.length<=9223372036854775807):∀(r:List Boa) (i:Nat),l.els.drop i=r->
  zS (zkO (enL 4 uM l)) [I6 (i:Int)] []=some (if zpF r then(.exit 0,[],[]) else(.ret,[Bo false],[])):=by
 intro r
 induction r with
 |nil=>
  intro i h;refine zr ?_
  grind[zkO,zA,zg,zi,zb,wq,z6,zm]
 |cons x r ih=>
  intro i h;have h1:=yn h;have ea:zc .add (I6 (i:Int)) (I6 1)=some (I6 ((i+1:Nat):Int)):=yG;have body:zkO (enL 4 uM l) [I6 (i:Int)] []=some (if x.stops.els.length<=3 then(.normal,[I6 ((i+1:Nat):Int)],[]) else(.ret,[Bo false],[])):=by
   simp only[zkO,zA,zg,zi,zb,zbN h1,zm,if_true,zX h,uM,y4,ww,zW,ea]
   grind
  by_cases hc:x.stops.els.length<=3
  .rw[Yzc hc]at body;rw[zE body,ih (i+1) (zJ h)];grind[zpF]
  .rw[Yza hc]at body;grind[zz,zpF]
theorem t56(k:Nat)(p:Pln)(hp:p.ok):D (k+1) 56 [SA (zmb p)]=some (S1 (Bo (zeG p))):=by
 have l:=l56 p.divs hp.dl p.divs.els 0 rfl;unfold zmb;rw[D56];unfold P56 zeG;simp only[zg,zb,zi,zW,zm,Yzo];rw[show (I6 0:DV)=I6 ((0:Nat):Int) from rfl,l];by_cases h1:1<=p.ranks.els.length
 .have g1:¬((p.ranks.els.length:Int)<1):=by omega
  by_cases h2:p.ranks.els.length<=3
  .have g2:¬((3:Int)<(p.ranks.els.length:Int)):=by omega
   by_cases h3:1<=p.divs.els.length
   .have g3:¬((p.divs.els.length:Int)<1):=by omega
    by_cases h4:p.divs.els.length<=3
    .have g4:¬((3:Int)<(p.divs.els.length:Int)):=by omega
     by_cases h5:p.cpls.els.length<=3
     .have g5:¬((3:Int)<(p.cpls.els.length:Int)):=by omega
      simp only[Yza g1,Yza g2,Yza g3,Yza g4,Yza g5,decide_eq_true h1,decide_eq_true h2,decide_eq_true h3,decide_eq_true h4,decide_eq_true h5,Yyb];cases zpF p.divs.els<;>rfl
     .grind
    .grind
   .grind
  .grind
 .grind
theorem zcY{α:Type}(f:α->List DV)(l:List α)(i:Nat):xY (some (l.map f)) i=(l[i]?).map f:=by show (l.map f)[i]? = _;rw[Lz6]
theorem zF8(k:Nat)(n:Nat):D (k+1) 102 [S1 (U8 (n:Int))]=some (SA (enF (fA n))):=by
 rw[zHA];unfold zET;have e:zc .rem (U8 (n:Int)) (U8 16)=some (U8 ((n % 16:Nat):Int)):=zgG (b:=16) (by decide);have i:zO (some (feetA.map enF)) (U8 ((n % 16:Nat):Int))=some (n % 16):=zcU (by rw[Yzm];exact Yzn _ (by decide));have j:xY (some (feetA.map enF)) (n % 16)=some (enF (fA n)):=by grind[zcY,zwh]
 rw[e,zb];refine (congrArg (za · _) i).trans ?_;rw[zb];refine (congrArg (za · _) j).trans ?_;rfl
theorem zF7(k:Nat)(n:Nat):D (k+1) 103 [S1 (U8 (n:Int))]=some (SA (enF (fB n))):=by
 rw[zHz];unfold zES;have e:zc .rem (U8 (n:Int)) (U8 6)=some (U8 ((n % 6:Nat):Int)):=zgG (b:=6) (by decide);have i:zO (some (feetB.map enF)) (U8 ((n % 6:Nat):Int))=some (n % 6):=zcU (by rw[Yzm];exact Yzn _ (by decide));have j:xY (some (feetB.map enF)) (n % 6)=some (enF (fB n)):=by grind[zcY,zwf]
 rw[e,zb];refine (congrArg (za · _) i).trans ?_;rw[zb];refine (congrArg (za · _) j).trans ?_;rfl
def pre(c:UInt8)(i:Nat):ByteArray:=⟨#[c]⟩++zfk [48+(i:Int)] ByteArray.empty
theorem zh9(c:UInt8)(i:Nat):zq3 .add (.str ⟨#[c]⟩) (.str (zfk [48+(i:Int)] ByteArray.empty))=some (St (pre c i)):=rfl
theorem zeO(i:Nat):zra (.lst 1 [[U8 (48+(i:Int))]])=some (St (zfk [48+(i:Int)] ByteArray.empty)):=rfl
def zoB:Nat->ByteArray
 |0=>⟨#[79,112,101,110]⟩
 |1=>⟨#[70,108,117,116,101]⟩
 |_=>⟨#[82,101,101,100]⟩
def wAt(r:RPl):Nat->Nat
 |0=>r.w0
 |1=>r.w1
 |2=>r.w2
 |3=>r.w3
 |_=>r.w4
def zaX(r:RPl)(n:Nat):List Int:=(List.range n).map fun k=>((wAt r (k % 5):Nat):Int)
theorem zgN(r:RPl)(n:Nat):zaX r (n+1)=zaX r n++[((wAt r (n % 5):Nat):Int)]:=by grind[zaX,List.range_succ]
theorem ze3(r:RPl)(n:Nat):(zaX r n).length=n:=by simp[zaX]
theorem zvF{r:RPl}(h:r.ok)(i:Nat):wAt r i<256:=by
 unfold wAt;split
 .exact h.w0
 .exact h.w1
 .exact h.w2
 .exact h.w3
 .exact h.w4
def zuJ(i:Nat)(r:RPl):Zm:=⟨pre 82 (i % 10),zoB (r.tone % 3),(fA r.feet).1,(fA r.feet).2,r.first,some (zaX r (1+r.pipes % 25))⟩
theorem l82(r:RPl)(hr:r.ok)(c0 c1 c2 c3 c4:DV):∀(m j:Nat),j+m=1+r.pipes % 25->
  zS (zkI (U8 (r.pipes:Int)) (U8 (r.w0:Int)) (U8 (r.w1:Int)) (U8 (r.w2:Int)) (U8 (r.w3:Int)) (U8 (r.w4:Int))) [I6 (j:Int),c0,c1,c2,c3,c4] [ocL enW (grow (zaX r j))] =
   some (.exit 0,[c0,c1,c2,c3,c4],[ocL enW (grow (zaX r (1+r.pipes % 25)))]):=by
 have e1:zc .rem (U8 (r.pipes:Int)) (U8 25)=some (U8 ((r.pipes % 25:Nat):Int)):=zgG (b:=25) (by decide);have hm:r.pipes % 25<25:=Yzn _ (by omega);have e2:zx .i64 (U8 ((r.pipes % 25:Nat):Int))=some (I6 ((r.pipes % 25:Nat):Int)):=vN;have e3:zc .add (I6 1) (I6 ((r.pipes % 25:Nat):Int))=some (I6 ((1+r.pipes % 25:Nat):Int)):=by grind[yG]
 intro m
 induction m with
 |zero=>
  intro j hj;refine zr ?_;have hj':j=1+r.pipes % 25:=by omega
  subst hj';have:decide (((1+r.pipes % 25:Nat):Int)<((1+r.pipes % 25:Nat):Int))=false:=wq (by omega);simp_all[zkI]
 |succ m ih=>
  intro j hj;have hlt:decide ((j:Int)<((1+r.pipes % 25:Nat):Int))=true:=zbN (by omega);have ea:zc .add (I6 (j:Int)) (I6 1)=some (I6 ((j+1:Nat):Int)):=yG;have eb:zc .rem (I6 (j:Int)) (I6 5)=some (I6 ((j % 5:Nat):Int)):=zgG (b:=5) (by decide);have h5:j % 5<5:=Yzn _ (by omega);have en:uc 5 (I6 ((j % 5:Nat):Int))=some (j % 5):=uP h5;have hw:=zvF hr (j % 5);have ew:atD [U8 (r.w0:Int),U8 (r.w1:Int),U8 (r.w2:Int),U8 (r.w3:Int),U8 (r.w4:Int)] (j % 5)=U8 ((wAt r (j % 5):Nat):Int):=by
   have:j % 5=0\/j % 5=1\/j % 5=2\/j % 5=3\/j % 5=4:=by omega
   rcases this with h|h|h|h|h<;>rw[h]<;>rfl
  have ec:zx .i64 (U8 ((wAt r (j % 5):Nat):Int))=some (I6 ((wAt r (j % 5):Nat):Int)):=vN;have ef:fits 8 ((grow (zaX r j)).els.length+1)=true:=xf (by decide) (by grind[zN,ze3]);have body:zkI (U8 (r.pipes:Int)) (U8 (r.w0:Int)) (U8 (r.w1:Int)) (U8 (r.w2:Int)) (U8 (r.w3:Int)) (U8 (r.w4:Int)) [I6 (j:Int),c0,c1,c2,c3,c4] [ocL enW (grow (zaX r j))] =
    some (.normal,[I6 ((j+1:Nat):Int),c0,c1,c2,c3,c4],[ocL enW (grow (zaX r (j+1)))]):=by
   simp_all[zgN,xx,zkI,wj]
  grind[zE]
theorem t82(k:Nat)(i:Nat)(hi:i<10)(r:RPl)(hr:r.ok):D (k+2) 82 [SA (zga r),S1 (I6 (i:Int))]=some (SA (enR (zuJ i r))):=by
 unfold zga;rw[D82];unfold P82;have e1:zc .rem (I6 (i:Int)) (I6 10)=some (I6 ((i % 10:Nat):Int)):=zgG (b:=10) (by decide);have h10:i % 10<10:=Yzn _ (by decide);have e2:zc .add (I6 48) (I6 ((i % 10:Nat):Int))=some (I6 (48+((i % 10:Nat):Int))):=yG;have e3:zx .u8 (I6 (48+((i % 10:Nat):Int)))=some (U8 (48+((i % 10:Nat):Int))):=by
  show some (DV.int .u8 (xV .u8 (48+((i % 10:Nat):Int))))=_
  grind[ztF]
 have e4:zc .rem (U8 (r.tone:Int)) (U8 3)=some (U8 ((r.tone % 3:Nat):Int)):=zgG (b:=3) (by decide);have e5:zx .i64 (.int .i8 r.first)=some (I6 r.first):=by
  have:=hr.f1;have:=hr.f2
  exact vN
 have l:=l82 r hr (St (pre 82 (i % 10))) (St (zoB (r.tone % 3))) (I6 (fA r.feet).1) (I6 (fA r.feet).2) (I6 r.first) (1+r.pipes % 25) 0 (by omega);rw[show ocL enW (grow (zaX r 0))=none from rfl]at l;have hg:grow (zaX r (1+r.pipes % 25))=some (zaX r (1+r.pipes % 25)):=by grind[zgN,xx,zN]
 rw[hg]at l;have h3:r.tone % 3=0\/r.tone % 3=1\/r.tone % 3=2:=by omega
 have et:za (zO (some [[(.str ⟨#[79,112,101,110]⟩)],[(.str ⟨#[70,108,117,116,101]⟩)],[(.str ⟨#[82,101,101,100]⟩)]]) (U8 ((r.tone % 3:Nat):Int))) (fun n6=>xY (some [[(.str ⟨#[79,112,101,110]⟩)],[(.str ⟨#[70,108,117,116,101]⟩)],[(.str ⟨#[82,101,101,100]⟩)]]) n6)=some [St (zoB (r.tone % 3))]:=by rcases h3 with h|h|h<;>rw[h]<;>rfl
 have eu:∀{β:Type} (K:List DV->Option β),za (zO (some [[(.str ⟨#[79,112,101,110]⟩)],[(.str ⟨#[70,108,117,116,101]⟩)],[(.str ⟨#[82,101,101,100]⟩)]]) (U8 ((r.tone % 3:Nat):Int))) (fun n6=>za (xY (some [[(.str ⟨#[79,112,101,110]⟩)],[(.str ⟨#[70,108,117,116,101]⟩)],[(.str ⟨#[82,101,101,100]⟩)]]) n6) K)=K [St (zoB (r.tone % 3))]:=by intro β K;rcases h3 with h|h|h<;>rw[h]<;>rfl
 have c:=zF8 k r.feet;simp only[e1,e2,e3,e4,zb,zeO,zh9];rw[eu];rw[c];unfold enF;rw[zEz (show[I6 (fA r.feet).1,I6 (fA r.feet).2].length=2 from rfl)];simp only[e5,zb,y4,ww];rw[show (I6 0:DV)=I6 ((0:Nat):Int) from rfl,l];rfl
end Go.Proofs.Tryz.Kn
end
section
namespace Go.Proofs.Tryz.Kn
open Go Go.CE Go.PE
theorem bT2{β:Type}(a b:DV)(K:List DS->Option β):bT [none,none] (some (.tup [.one a,.one b])) K=K [.one a,.one b]:=rfl
def zjq(rs:List Zm)(i:Nat):Zm:=(rs[i]?).getD ⟨ByteArray.empty,ByteArray.empty,8,1,0,none⟩
theorem zh1{rs:List Zm}{i:Nat}(h:i<rs.length):rs[i]? = some (zjq rs i):=by grind[zjq]
theorem zcN{rs:List Zm}{i:Nat}(h:i<rs.length):zjq rs i∈rs:=Lz3 (zh1 h)
def wg(low high:Int)(n:Int)(sh:Int)(m:Int)(sh2:Int)(at_:Int):Nat->List Seg
 |2=>[⟨low,high,some [⟨n,sh⟩,⟨n,sh+7⟩]⟩]
 |3=>if low<at_ then[⟨low,at_-1,some [⟨n,sh⟩]⟩,⟨at_,high,some [⟨m,sh2⟩]⟩] else[⟨at_,high,some [⟨m,sh2⟩]⟩]
 |4=>if low<at_ then[⟨low,at_-1,some [⟨n,sh⟩]⟩,⟨at_,high,some [⟨n,sh-12⟩]⟩] else[⟨at_,high,some [⟨n,sh-12⟩]⟩]
 |5=>[⟨at_,high,some [⟨n,sh⟩]⟩]
 |_=>[⟨low,high,some [⟨n,sh⟩]⟩]
def rkF(r:Zm):Int×Int:=(r.num,r.den)
def zb8(rs:List Zm)(low high:Int)(i:Nat)(x:Pul):Zt:=
 ⟨pre 83 i, (fB x.feet).1, (fB x.feet).2, some (wg low high ((x.rank % rs.length : Nat) : Int) (shf (fB x.feet) (rkF (zjq rs (x.rank % rs.length)))) (((x.rank % rs.length + 1) % rs.length : Nat) : Int)
  (shf (fB x.feet) (rkF (zjq rs ((x.rank % rs.length+1) % rs.length)))) (low+((x.at_:Int).tmod (high-low+1))) (x.kind % 6))⟩
theorem t83(k:Nat)(rs:List Zm)(hl:0<rs.length)(hl3:rs.length<=1000)(hf:∀r∈rs,rkF r∈feetA)(low high:Int)(h0:0<=low)(h1:low<=high)(h2:high<=1000)(x:Pul)(hx:x.ok)(i:Nat)(hi:i<10):
  D (k+6) 83 [S1 (enL 6 enR (some rs)),SA [I6 low,I6 high],SA (zma x),S1 (I6 (i:Int))]=some (SA (vY (zb8 rs low high i x))):=by
 unfold zma;rw[D83];unfold P83 zb8;have hn:x.rank % rs.length<rs.length:=Yzn _ hl;have hm:(x.rank % rs.length+1) % rs.length<rs.length:=Yzn _ hl;generalize hN:x.rank % rs.length=n at hn hm;generalize hM:(n+1) % rs.length=m at hm;have e0:zx .i64 (U8 (x.rank:Int))=some (I6 (x.rank:Int)):=by have:=hx.rank;exact vN
 have e1:zc .rem (I6 (x.rank:Int)) (I6 (rs.length:Int))=some (I6 (n:Int)):=by grind[zgG]
 have e2:zc .add (I6 48) (I6 (i:Int))=some (I6 (48+(i:Int))):=yG;have e3:zx .u8 (I6 (48+(i:Int)))=some (U8 (48+(i:Int))):=by
  show some (DV.int .u8 (xV .u8 (48+(i:Int))))=_
  grind[ztF]
 have c1:=zF7 (k+4) x.feet;have ix:yb 6 (enL 6 enR (some rs)) (I6 (n:Int))=some (enR (zjq rs n)):=by grind[xC,zh1]
 have ix2:yb 6 (enL 6 enR (some rs)) (I6 (m:Int))=some (enR (zjq rs m)):=by grind[xC,zh1]
 have s1:=zE0 k (fB x.feet) (rkF (zjq rs n)) (zhv _) (hf _ (zcN hn));have s2:=zE0 k (fB x.feet) (rkF (zjq rs m)) (zhv _) (hf _ (zcN hm));have b1:=zqp (fB x.feet) (rkF (zjq rs n)) (zhv _) (hf _ (zcN hn));generalize shf (fB x.feet) (rkF (zjq rs n))=sh at s1 b1 ⊢;generalize shf (fB x.feet) (rkF (zjq rs m))=sh2 at s2 ⊢;unfold rkF enF at s1 s2;unfold enF at c1;generalize (fB x.feet).1=u at c1 s1 s2 ⊢;generalize (fB x.feet).2=v at c1 s1 s2 ⊢;simp only at s1 s2;have e4:zx .i64 (U8 (x.at_:Int))=some (I6 (x.at_:Int)):=by have:=hx.at_;exact vN
 have e5:zc .sub (I6 high) (I6 low)=some (I6 (high-low)):=zci;have e6:zc .add (I6 (high-low)) (I6 1)=some (I6 (high-low+1)):=yG;have e7:zc .rem (I6 (x.at_:Int)) (I6 (high-low+1))=some (I6 ((x.at_:Int).tmod (high-low+1))):=zeN _ _ _ (by omega);have hq:0<=(x.at_:Int).tmod (high-low+1)/\(x.at_:Int).tmod (high-low+1)<high-low+1:=⟨Int.tmod_nonneg _ (by omega),Int.tmod_lt_of_pos _ (by omega)⟩;generalize (x.at_:Int).tmod (high-low+1)=q at e7 hq ⊢;have e8:zc .add (I6 low) (I6 q)=some (I6 (low+q)):=yG;have e9:zc .rem (U8 (x.kind:Int)) (U8 6)=some (U8 ((x.kind % 6:Nat):Int)):=zgG (b:=6) (by decide);have e10:zc .add (I6 sh) (I6 7)=some (I6 (sh+7)):=yG;have e11:zc .sub (I6 sh) (I6 12)=some (I6 (sh-12)):=zci;have e12:zc .add (I6 (n:Int)) (I6 1)=some (I6 ((n+1:Nat):Int)):=yG;have e13:zc .rem (I6 ((n+1:Nat):Int)) (I6 (rs.length:Int))=some (I6 (m:Int)):=by rw[<-hM];exact zgG (by omega)
 have e14:zc .sub (I6 (low+q)) (I6 1)=some (I6 (low+q-1)):=zci;have f1:fits 40 1=true:=by decide
 have f2:fits 40 2=true:=by decide
 have hk:x.kind % 6<6:=Yzn _ (by decide);generalize x.kind % 6=kd at e9 hk ⊢;have b2:∀{β:Type} (a b:DV) (K:List DV->Option β),bA 2 (some (SA [a,b])) K=K [a,b]:=fun _ _ _=>rfl;simp only[e0,zb,zg,yW,e1,e2,e3,zeO,zh9,c1,b2,y4,ww,ix,enR,s1,bT2,zsN,zmg,e4,e5,e6,e7,e8,e9,xO,zW,zm,e10,e11,e12,e13,ix2,s2,e14];have hkd:kd=0\/kd=1\/kd=2\/kd=3\/kd=4\/kd=5:=by omega
 rcases hkd with h|h|h|h|h|h<;>subst h
 .rfl
 .rfl
 .rfl
 .by_cases hb:low<low+q
  .simp only[wg,Yzc hb,decide_eq_true hb];rfl
  .simp only[wg,Yza hb,decide_eq_false hb];rfl
 .by_cases hb:low<low+q
  .simp only[wg,Yzc hb,decide_eq_true hb];rfl
  .simp only[wg,Yza hb,decide_eq_false hb];rfl
 .rfl
def uh:Nat->List RPl->List Zm
 |_,[]=>[]
 |i,r::l=>zuJ i r::uh (i+1) l
def vz(rs:List Zm)(low high:Int):Nat->List Pul->List Zt
 |_,[]=>[]
 |i,x::l=>zb8 rs low high i x::vz rs low high (i+1) l
def zfM(b:Boa):Int:=36+((b.low % 12:Nat):Int)
def zbi(b:Boa):Int:=zfM b+((b.keys % 9:Nat):Int)
def zj3(rs:List Zm)(i:Nat)(b:Boa):Zo:=⟨pre 68 i,b.pedal,zfM b,zbi b,grow (vz rs (zfM b) (zbi b) 0 b.stops.els)⟩
def vW(rs:List Zm):Nat->List Boa->List Zo
 |_,[]=>[]
 |i,b::l=>zj3 rs i b::vW rs (i+1) l
def zcq(n:Nat)(i:Nat)(l:Lnk):Cpl:=
 ⟨pre 67 i,((l.src % n:Nat):Int),((l.dst % n:Nat):Int),if ((l.src % n:Nat):Int)=((l.dst % n:Nat):Int)/\l.shift.tmod 25=0 then 12 else l.shift.tmod 25,l.thr⟩
def zc1(n:Nat):Nat->List Lnk->List Cpl
 |_,[]=>[]
 |i,c::l=>zcq n i c::zc1 n (i+1) l
def zjS:ByteArray:=⟨#[79,114,103,97,110]⟩
def zaW(p:Pln):Org:=⟨zjS,grow (uh 0 p.ranks.els),grow (vW (uh 0 p.ranks.els) 0 p.divs.els),grow (zc1 p.divs.els.length 0 p.cpls.els)⟩
theorem zc0:∀(l:List RPl) (i:Nat),(uh i l).length=l.length
 | [],_=>rfl
 |_::l,i=>by simp[uh,zc0 l]
theorem zdI:∀(l:List RPl) (i:Nat),∀r∈uh i l,rkF r∈feetA
 | [],_,_,h=>by cases h
 |x::l,i,r,h=>by
  rcases Yya.1 h with rfl|h
  .exact zwg x.feet
  .exact zdI l _ r h
theorem zDQ(k:Nat)(l:Sl RPl)(hl:l.els.length<=3)(hr:∀x∈l.els,x.ok)(nm:DV):∀(r:List RPl) (i:Nat) (acc:List Zm),l.els.drop i=r->acc.length=i->
  zS (ztj (D (k+2)) (enL 9 zga l)) [I6 (i:Int),nm] [ocL enR (grow acc),none,none]=some (.exit 0,[nm],[ocL enR (grow (acc++uh i r)),none,none]):=by
 intro r
 induction r with
 |nil=>grind[zr,ztj,zA,yJ,yU,uC,zg,zi,zb,wq,z6,zm,uh]
 |cons x r ih=>
  intro i acc h ha;have h1:=yn h;have ea:zc .add (I6 (i:Int)) (I6 1)=some (I6 ((i+1:Nat):Int)):=yG;have c:=t82 k i (by omega) x (hr x (Lz3 (ye h)));have ef:fits 80 ((grow acc).els.length+1)=true:=xf (by decide) (by grind[zN]);have b6:∀{β:Type} (K:List DV->Option β),bA 6 (some (SA (enR (zuJ i x)))) K=K (enR (zuJ i x)):=fun _=>rfl;have body:ztj (D (k+2)) (enL 9 zga l) [I6 (i:Int),nm] [ocL enR (grow acc),none,none]=some (.normal,[I6 ((i+1:Nat):Int),nm],[ocL enR (grow (acc++[zuJ i x])),none,none]):=by rw[xx];unfold zga at c;simp only[ztj,zA,yJ,yU,uC,zg,zi,zb,zbN h1,zm,if_true,zX h,zga,y4,ww,c,b6,xQ,Yzh,Yzv,ef,xM,ea,xg];rw[<-wj (f:=enR)];rfl
  rw[zE body,ih (i+1) _ (zJ h) (by simp[ha])];simp[uh]
theorem zA2(k:Nat)(rs:List Zm)(hl:0<rs.length)(hl3:rs.length<=1000)(hf:∀r∈rs,rkF r∈feetA)(b:Boa)(hb:b.ok)(h3:b.stops.els.length<=3)(low high:Int)(h0:0<=low)(h1:low<=high)(h2:high<=1000)(d0 d1 c0 c1:DV):
  ∀(r:List Pul) (i:Nat) (acc:List Zt),b.stops.els.drop i=r->acc.length=i->
  zS (zkM (D (k+6)) (uM b) [d0,d1,enL 6 enR (some rs)]) [I6 (i:Int),c0,c1,I6 low,I6 high] [ocL vY (grow acc)]=some (.exit 4,[c0,c1,I6 low,I6 high],[ocL vY (grow (acc++vz rs low high i r))]):=by
 intro r
 induction r with
 |nil=>intro i acc h _;refine zr ?_;simp only[zkM,uM,y4,ww,zA,yJ,yU,zg,zi,zb,wq (z6 h),zm,vz,YzP];rfl
 |cons x r ih=>
  intro i acc h ha;have hlt:=yn h;have ea:zc .add (I6 (i:Int)) (I6 1)=some (I6 ((i+1:Nat):Int)):=yG;have c:=t83 k rs hl hl3 hf low high h0 h1 h2 x (hb.stops x (Lz3 (ye h))) i (by omega);have ef:fits 56 ((grow acc).els.length+1)=true:=xf (by decide) (by grind[zN]);have b4:∀{β:Type} (K:List DV->Option β),bA 4 (some (SA (vY (zb8 rs low high i x)))) K=K (vY (zb8 rs low high i x)):=fun _=>rfl;have body:zkM (D (k+6)) (uM b) [d0,d1,enL 6 enR (some rs)] [I6 (i:Int),c0,c1,I6 low,I6 high] [ocL vY (grow acc)]=some (.normal,[I6 ((i+1:Nat):Int),c0,c1,I6 low,I6 high],[ocL vY (grow (acc++[zb8 rs low high i x]))]):=by rw[xx];unfold zma at c;simp only[zkM,uM,zA,yJ,yU,zg,zi,zb,zbN hlt,zm,if_true,y4,ww,zX h,zma,c,b4,xQ,Yzh,Yzv,ef,xM,ea,xg];rw[<-wj (f:=vY)];rfl
  rw[zE body,ih (i+1) _ (zJ h) (by simp[ha])];simp[vz]
theorem zlP(b:Boa):36<=zfM b/\zfM b<=47:=by grind[zfM]
theorem ziO(b:Boa):zfM b<=zbi b/\zbi b<=zfM b+8:=by grind[zbi]
theorem zA5(k:Nat)(rs:List Zm)(hl:0<rs.length)(hl3:rs.length<=1000)(hf:∀r∈rs,rkF r∈feetA)(l:Sl Boa)(hll:l.els.length<=3)(hb:∀b∈l.els,b.ok)(h3:∀b∈l.els,b.stops.els.length<=3)(nm:DV):
  ∀(r:List Boa) (i:Nat) (acc:List Zo),l.els.drop i=r->acc.length=i->
  zS (zkN (D (k+6)) (enL 4 uM l)) [I6 (i:Int),nm,enL 6 enR (some rs)] [ocL enV (grow acc),none]=some (.exit 2,[nm,enL 6 enR (some rs)],[ocL enV (grow (acc++vW rs i r)),none]):=by
 intro r
 induction r with
 |nil=>grind[zr,zkN,zA,yJ,yU,uC,zg,zi,zb,wq,z6,zm,vW]
 |cons b r ih=>
  intro i acc h ha;have hlt:=yn h;have hmem:=Lz3 (ye h);have ea:zc .add (I6 (i:Int)) (I6 1)=some (I6 ((i+1:Nat):Int)):=yG;have hlow:=zlP b;have hhigh:=ziO b;have e1:zc .rem (U8 (b.low:Int)) (U8 12)=some (U8 ((b.low % 12:Nat):Int)):=zgG (b:=12) (by decide);have e2:zx .i64 (U8 ((b.low % 12:Nat):Int))=some (I6 ((b.low % 12:Nat):Int)):=vN;have e3:zc .add (I6 36) (I6 ((b.low % 12:Nat):Int))=some (I6 (zfM b)):=yG;have e4:zc .add (I6 48) (I6 (i:Int))=some (I6 (48+(i:Int))):=yG;have e5:zx .u8 (I6 (48+(i:Int)))=some (U8 (48+(i:Int))):=by show some (DV.int .u8 (xV .u8 (48+(i:Int))))=_;rw[ztF];congr 2;omega
  have e6:zc .rem (U8 (b.keys:Int)) (U8 9)=some (U8 ((b.keys % 9:Nat):Int)):=zgG (b:=9) (by decide);have e7:zx .i64 (U8 ((b.keys % 9:Nat):Int))=some (I6 ((b.keys % 9:Nat):Int)):=vN;have e8:zc .add (I6 (zfM b)) (I6 ((b.keys % 9:Nat):Int))=some (I6 (zbi b)):=by have:zc .add (I6 (zfM b)) (I6 ((b.keys % 9:Nat):Int))=some (I6 (zfM b+((b.keys % 9:Nat):Int))):=yG;exact this
  have ll:=zA2 k rs hl hl3 hf b (hb b hmem) (h3 b hmem) (zfM b) (zbi b) (by omega) (by omega) (by omega) (I6 (i:Int)) nm (St (pre 68 i)) (Bo b.pedal) b.stops.els 0 [] rfl rfl;rw[show ocL vY (grow ([]:List Zt))=none from rfl,show (I6 ((0:Nat):Int):DV)=I6 0 from rfl,YzM]at ll;have ef:fits 64 ((grow acc).els.length+1)=true:=xf (by decide) (by grind[zN]);have body:zkN (D (k+6)) (enL 4 uM l) [I6 (i:Int),nm,enL 6 enR (some rs)] [ocL enV (grow acc),none]=some (.normal,[I6 ((i+1:Nat):Int),nm,enL 6 enR (some rs)],[ocL enV (grow (acc++[zj3 rs i b])),none]):=by rw[xx];have ix:yb 4 (enL 4 uM l) (I6 (i:Int))=some (uM b):=zX h _;have q0:atD (uM b) 0=U8 (b.low:Int):=rfl;have q1:atD (uM b) 1=U8 (b.keys:Int):=rfl;have q2:atD (uM b) 2=Bo b.pedal:=rfl;simp only[zkN,zA,yJ,yU,uC,zg,zi,zb,zbN hlt,zm,if_true,ix,q0,q1,q2,e1,e2,e3,e4,e5,zeO,zh9,e6,e7,e8,ll,yi,Yzq,Yzb,xQ,Yzh,Yzv,ef,xM,ea,xg,zbf];rw[<-wj (f:=enV)];rfl
  rw[zE body,ih (i+1) _ (zJ h) (by simp[ha])];simp[vW]
theorem zA1(n:Nat)(hn:0<n)(hn3:n<=1000)(l:Sl Lnk)(hll:l.els.length<=3)(hb:∀b∈l.els,b.ok)(nm rk:DV)(dv:OC):
  ∀(r:List Lnk) (i:Nat) (acc:List Cpl),l.els.drop i=r->acc.length=i->
  zS (zkL (enL 4 zkp l) (I6 (n:Int))) [I6 (i:Int),nm,rk] [dv,ocL enC (grow acc)]=some (.exit 6,[nm,rk],[dv,ocL enC (grow (acc++zc1 n i r))]):=by
 intro r
 induction r with
 |nil=>grind[zr,zkL,zA,yJ,yU,uC,zg,zi,zb,wq,z6,zm,zc1]
 |cons b r ih=>
  intro i acc h ha;have hlt:=yn h;have hbb:=hb b (Lz3 (ye h));have ea:zc .add (I6 (i:Int)) (I6 1)=some (I6 ((i+1:Nat):Int)):=yG;have e4:zc .add (I6 48) (I6 (i:Int))=some (I6 (48+(i:Int))):=yG;have e5:zx .u8 (I6 (48+(i:Int)))=some (U8 (48+(i:Int))):=by show some (DV.int .u8 (xV .u8 (48+(i:Int))))=_;rw[ztF];congr 2;omega
  have g1:zx .i64 (U8 (b.src:Int))=some (I6 (b.src:Int)):=by have:=hbb.src;exact vN
  have g2:zc .rem (I6 (b.src:Int)) (I6 (n:Int))=some (I6 ((b.src % n:Nat):Int)):=zgG (by omega);have g3:zx .i64 (U8 (b.dst:Int))=some (I6 (b.dst:Int)):=by have:=hbb.dst;exact vN
  have g4:zc .rem (I6 (b.dst:Int)) (I6 (n:Int))=some (I6 ((b.dst % n:Nat):Int)):=zgG (by omega);have g5:zx .i64 (.int .i8 b.shift)=some (I6 b.shift):=by have:=hbb.s1;have:=hbb.s2;exact vN
  have g6:zc .rem (I6 b.shift) (I6 25)=some (I6 (b.shift.tmod 25)):=zeN _ _ _ (by decide);have ef:fits 48 ((grow acc).els.length+1)=true:=xf (by decide) (by grind[zN]);have body:zkL (enL 4 zkp l) (I6 (n:Int)) [I6 (i:Int),nm,rk] [dv,ocL enC (grow acc)]=some (.normal,[I6 ((i+1:Nat):Int),nm,rk],[dv,ocL enC (grow (acc++[zcq n i b]))]):=by
   rw[xx,<-wj (f:=enC)];simp only[zkL,zA,yJ,yU,uC,zg,zi,zb,zbN hlt,zm,if_true,zX h,zkp,y4,ww,e4,e5,zeO,zh9,g1,g2,g3,g4,g5,g6,xO,xQ,Yzh,Yzv,ef,xM,ea,xg];unfold zcq enC;by_cases h1:((b.src % n:Nat):Int)=((b.dst % n:Nat):Int)
   .by_cases h2:b.shift.tmod 25=0<;>grind
   .grind
  rw[zE body,ih (i+1) _ (zJ h) (by simp[ha])];simp[zc1]
theorem q8{p:Pln}(h:zeG p=true):1<=p.ranks.els.length/\p.ranks.els.length<=3/\1<=p.divs.els.length/\p.divs.els.length<=3/\p.cpls.els.length<=3/\∀b∈p.divs.els,b.stops.els.length<=3:=by grind[zeG,zpF]
theorem zsp{α:Type}{l:List α}(h:0<l.length):grow l=some l:=by cases l with|nil=>simp at h|cons _ _=>rfl
theorem t57(k:Nat)(p:Pln)(hp:p.ok)(hf:zeG p=true):D (k+7) 57 [SA (zmb p)]=some (SA (enO (zaW p))):=by obtain⟨f1,f2,f3,f4,f5,f6⟩:=q8 hf;have hlen:(uh 0 p.ranks.els).length=p.ranks.els.length:=zc0 _ _;have l2:=zDQ (k+4) p.ranks f2 hp.ranks (St zjS) p.ranks.els 0 [] rfl rfl;have l12:=zA5 k (uh 0 p.ranks.els) (by omega) (by omega) (zdI _ _) p.divs f4 hp.divs f6 (St zjS) p.divs.els 0 [] rfl rfl;have l43:=zA1 p.divs.els.length (by omega) (by omega) p.cpls f5 hp.cpls (St zjS) (enL 6 enR (some (uh 0 p.ranks.els))) (ocL enV (grow (vW (uh 0 p.ranks.els) 0 p.divs.els))) p.cpls.els 0 [] rfl rfl;rw[show ocL enR (grow ([]:List Zm))=none from rfl,show (I6 ((0:Nat):Int):DV)=I6 0 from rfl,YzM]at l2;rw[show ocL enV (grow ([]:List Zo))=none from rfl,show (I6 ((0:Nat):Int):DV)=I6 0 from rfl,YzM]at l12;rw[show ocL enC (grow ([]:List Cpl))=none from rfl,show (I6 ((0:Nat):Int):DV)=I6 0 from rfl,YzM]at l43;have hg:grow (uh 0 p.ranks.els)=some (uh 0 p.ranks.els):=zsp (by omega);simp_all[zmb,D57,P57,zaW,enO,zjS]
end Go.Proofs.Tryz.Kn
end
