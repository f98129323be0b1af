/-
  Lemmas. No condition.
-/
import Derived.Test.YtakbfapnhjkgoaaGreatDoorVd
import Derived.Test.YtakbfapnhjkgoaaGreatDoorVe
import Derived.Test.YtakbfapnhjkgoaaGreatDoorZk
import Derived.Test.YtakbfapnhjkgoaaGreatDoorZl
import Derived.Test.YtakbfapnhjkgoaaGreatDoorProg
set_option linter.unusedSimpArgs false
set_option linter.unusedVariables false
noncomputable section
namespace Go.Proofs.Tryz.Kn
open Go Go.CE Go.PE
abbrev prog:Program:=Tryz.prog
def yA:Nat→Bool:=fun g=>match g with|52=>true|97=>true|101=>true|99=>true|103=>true|100=>true|119=>true|45=>true|67=>true|28=>true|29=>true|32=>true|33=>true|34=>true|56=>true|59=>true|79=>true|95=>true|_=>false
abbrev redI:Red:=⟨fun _ _=>none,fun g=>match g with|97=>some ⟨[98,139],2⟩|101=>some ⟨[102],2⟩|_=>none⟩
def an0:Nat→Option LA:=fun _=>none
def zAI:Nat→List PA→Nat→Nat→Option LA:=fun _ _ _ _=>none
def an3:Nat→Option LA:=fun i=>match i with|0=>some ⟨[.slot 12],[],[],[],[],[],[.slot 4],[],[]⟩|_=>none
def zBB:Nat→List PA→Nat→Nat→Option LA:=fun h _ n i=>match h,n,i with|28,0,999=>some ⟨[],[],[],[],[],[],[],[],[]⟩  |_,_,_=>none
def an4:Nat→Option LA:=fun i=>match i with|0=>some ⟨[.slot 15,.cell 6 0,.cell 6 1,.cell 6 2],[],[(6,3)],[],[.cell 6 0,.cell 6 1,.cell 6 2],[],[.slot 6,.cell 6 0,.cell 6 1,.cell 6 2],[],[]⟩|_=>none
def zFA:Nat→List PA→Nat→Nat→Option LA:=fun h _ n i=>match h,n,i with|28,0,999=>some ⟨[],[],[],[],[],[],[],[],[]⟩  |_,_,_=>none
def zD8(O:Orc)(b:List DS)(h:DV)(c:List DV)(a:List DV)(_t:List OC):Option PX:=za (zY (dsO (zT b 0))) fun j=>za (zc .lss (zf a 0) j) fun k=>ifB k (za (yW 3 (dsO (zT b 0)) (zf a 0)) fun d=>b1 (O 18 [SA [zf a 1,zf a 2,zf a 3],SA [atD d 0,atD d 1,atD d 2]]) fun l=>za (uE l) fun m=>ifB m (some (.ret,[.bool false,zf a 1,zf a 2,zf a 3],[])) (za (yW 3 (dsO (zT b 0)) (zf a 0)) fun e=>b1 (O 17 [SA [atD e 0,atD e 1,atD e 2]]) fun n=>b1 (O 17 [SA [zf a 1,zf a 2,zf a 3]]) fun o=>za (zc .sub n o) fun p=>za (zc .gtr p h) fun q=>ifB q (some (.ret,[.bool false,zf a 1,zf a 2,zf a 3],[])) (za (yW 3 (dsO (zT b 0)) (zf a 0)) fun f=>b1 (O 19 [SA [atD c 0,atD c 1,atD c 2,atD c 3],SA [atD f 0,atD f 1,atD f 2],SA [zf a 1,zf a 2,zf a 3]]) fun r=>ifB r (some (.ret,[.bool false,zf a 1,zf a 2,zf a 3],[])) (za (yW 3 (dsO (zT b 0)) (zf a 0)) fun g=>za (zc .add (zf a 0) (I6 1)) fun s=>some (.normal,[s,atD g 0,atD g 1,atD g 2],[]))))) (some (.exit 0,[zf a 1,zf a 2,zf a 3],[]))
def P4(O:Orc)(a b c d f h j m r s w y z q:DV):Option DA:=b1 (O 5 []) fun t=>za (uE t) fun v=>ifB v (b1 (O 5 []) fun x=>some (S1 x)) (b1 (O 6 [SA [a,b,c]]) fun A=>za (uE A) fun B=>ifB B (b1 (O 5 []) fun C=>some (S1 C)) (za (zc .rem q (U8 9)) fun E=>za (xx .i64 E) fun F=>za (zc .add (I6 1) F) fun n=>bA 4 (O 7 [SA [a,b,c]]) fun e=>bA 3 (O 14 [SA [atD e 0,atD e 1,atD e 2,atD e 3],SA [atD [d,r] 0,atD [f,s] 0,atD [h,w] 0,atD [j,y] 0,atD [m,z] 0]]) fun k=>bA 3 (O 14 [SA [atD e 0,atD e 1,atD e 2,atD e 3],SA [atD [d,r] 1,atD [f,s] 1,atD [h,w] 1,atD [j,y] 1,atD [m,z] 1]]) fun p=>bA 3 (O 15 [SA [atD k 0,atD k 1,U64 0],SA [atD p 0,atD p 1,U64 0]]) fun g=>bT [none,none] (O 8 [SA [atD e 0,atD e 1,atD e 2,atD e 3],SA [atD k 0,atD k 1,U64 0,atD g 0,atD g 1,atD g 2,n]]) fun o=>za (zc .neq (dsO (zT o 1)) (I6 0)) fun G=>ifB G (some (S1 (.bool false))) (b1 (O 16 [SA [atD e 0,atD e 1,atD e 2,atD e 3],S1 (dsO (zT o 0))]) fun H=>za (zc .neq H (I6 0)) fun J=>ifB J (some (S1 (.bool false))) (za (zY (dsO (zT o 0))) fun K=>b1 (O 17 [SA [atD g 0,atD g 1,atD g 2]]) fun L=>b1 (O 17 [SA [atD k 0,atD k 1,U64 0]]) fun M=>za (zc .sub L M) fun N=>za (zc .add N n) fun P=>za (zc .sub P (I6 1)) fun Q=>za (zc .quo Q n) fun R=>za (zc .neq K R) fun S=>ifB S (some (S1 (.bool false))) (z6 (zA (zD8 O o n e) [I6 0,atD k 0,atD k 1,U64 0] []) (fun T l _U=>bif Nat.beq T 0 then (b1 (O 13 [SA [zf l 0,zf l 1,zf l 2],SA [atD g 0,atD g 1,atD g 2]]) fun V=>some (S1 V)) else(none)) (fun l _U=>some (S1 (zf l 0))))))))
theorem p4(O:Orc)(a b c d f h j m r s w y z a2:DV):wM prog O yA (inl prog O yA zFA redI 6) an4 4 [SA [a,b,c],SA [d,f,h,j,m,r,s,w,y,z],S1 a2]=P4 O a b c d f h j m r s w y z a2:=by kernel_rfl
def an6:Nat→Option LA:=fun i=>match i with|0=>some ⟨[.slot 3],[],[],[],[],[],[.slot 2],[],[]⟩|_=>none
def zBA:Nat→List PA→Nat→Nat→Option LA:=fun h _ n i=>match h,n,i with|28,0,999=>some ⟨[],[],[],[],[],[],[],[],[]⟩  |_,_,_=>none
def zpE(a:DV)(b:List DV)(_j:List OC):Option PX:=za (zY a) fun c=>za (zc .lss (zf b 0) c) fun d=>ifB d (za (yW 4 a (zf b 0)) fun e=>za (zY (atD e 3)) fun f=>za (zc .gtr f (I6 3)) fun g=>ifB g (some (.ret,[.bool false],[])) (za (zc .add (zf b 0) (I6 1)) fun h=>some (.normal,[h],[]))) (some (.exit 0,[],[]))
def P6(_O:Orc)(a b c:DV):Option DA:=za (zY a) fun e=>za (zc .lss e (I6 1)) fun f=>ifB f (some (S1 (.bool false))) (za (zY a) fun g=>za (zc .gtr g (I6 3)) fun h=>ifB h (some (S1 (.bool false))) (za (zY b) fun j=>za (zc .lss j (I6 1)) fun k=>ifB k (some (S1 (.bool false))) (za (zY b) fun l=>za (zc .gtr l (I6 3)) fun m=>ifB m (some (S1 (.bool false))) (za (zY c) fun n=>za (zc .gtr n (I6 3)) fun o=>ifB o (some (S1 (.bool false))) (z6 (zA (zpE b) [I6 0] []) (fun p _d _q=>bif Nat.beq p 0 then (some (S1 (.bool true))) else(none)) (fun d _q=>some (S1 (zf d 0))))))))
theorem p6(O:Orc)(a b c:DV):wM prog O yA (inl prog O yA zBA redI 6) an6 6 [SA [a,b,c]]=P6 O a b c:=by kernel_rfl
def an7:Nat→Option LA:=fun i=>match i with|0=>some ⟨[.slot 4,.cell 2 0],[(.cell 2 1,6),(.cell 2 2,5),(.cell 2 3,5)],[(2,4)],[],[.cell 2 0],[(.cell 2 1,6),(.cell 2 2,5),(.cell 2 3,5)],[.cell 2 0,.cell 2 2,.cell 2 3],[(.cell 2 1,6)],[]⟩|1=>some ⟨[.slot 5,.cell 2 0,.cell 2 1],[(.cell 2 2,5),(.cell 2 3,5)],[(2,4)],[],[.cell 2 0,.cell 2 1],[(.cell 2 2,5),(.cell 2 3,5)],[.cell 2 0,.cell 2 1],[(.cell 2 2,5),(.cell 2 3,5)],[3]⟩|2=>some ⟨[.slot 9,.cell 10 0,.cell 10 1,.cell 10 2,.cell 10 3],[(.cell 10 4,4)],[(10,5)],[],[.cell 10 0,.cell 10 1,.cell 10 2,.cell 10 3],[(.cell 10 4,4)],[.cell 10 0,.cell 10 1,.cell 10 2,.cell 10 3],[(.cell 10 4,4)],[]⟩|3=>some ⟨[.slot 11,.cell 2 0,.cell 2 1],[(.cell 2 2,5),(.cell 2 3,5)],[(2,4)],[],[.cell 2 0,.cell 2 1],[(.cell 2 2,5),(.cell 2 3,5)],[.cell 2 0,.cell 2 1],[(.cell 2 2,5),(.cell 2 3,5)],[]⟩|_=>none
def zBz:Nat→List PA→Nat→Nat→Option LA:=fun h _ n i=>match h,n,i with|28,0,999=>some ⟨[],[],[],[],[],[],[],[],[]⟩  |_,_,_=>none
def zpB(a j:DV)(b:List DV)(c:List OC):Option PX:=za (zY a) fun k=>za (zc .lss (zf b 0) k) fun l=>ifB l (za (yW 4 a (zf b 0)) fun d=>za (zc .add (I6 48) (zf b 0)) fun m=>za (xx .u8 m) fun n=>za (znE (.lst 1 [[n]])) fun o=>za (znx .add (.str ⟨#[67]⟩) o) fun g=>za (xx .i64 (atD d 0)) fun p=>za (zc .rem p j) fun e=>za (xx .i64 (atD d 1)) fun q=>za (zc .rem q j) fun f=>za (xx .i64 (atD d 2)) fun r=>za (zc .rem r (I6 25)) fun h=>za (zc .eql e f) fun s=>ifB s (za (zc .eql h (I6 0)) fun t=>ifB t (gd (fits 48 (xR (zt c 1)+1)) (za (zc .add (zf b 0) (I6 1)) fun v=>some (.normal,[v,zf b 1,zf b 2],[zt c 0,some (zG (zt c 1)++[[g,e,f,I6 12,atD d 3]])]))) (gd (fits 48 (xR (zt c 1)+1)) (za (zc .add (zf b 0) (I6 1)) fun w=>some (.normal,[w,zf b 1,zf b 2],[zt c 0,some (zG (zt c 1)++[[g,e,f,h,atD d 3]])])))) (gd (fits 48 (xR (zt c 1)+1)) (za (zc .add (zf b 0) (I6 1)) fun x=>some (.normal,[x,zf b 1,zf b 2],[zt c 0,some (zG (zt c 1)++[[g,e,f,h,atD d 3]])])))) (some (.exit 6,[zf b 1,zf b 2],[zt c 0,zt c 1]))
def zpC(O:Orc)(e f:List DV)(a:List DV)(d:List OC):Option PX:=za (zY (atD e 3)) fun g=>za (zc .lss (zf a 0) g) fun h=>ifB h (za (yW 4 (atD e 3) (zf a 0)) fun b=>bA 4 (O 26 [S1 (zf f 2),SA [zf a 3,zf a 4],SA [atD b 0,atD b 1,atD b 2,atD b 3],S1 (zf a 0)]) fun c=>gd (fits 56 (xR (zt d 0)+1)) (za (zc .add (zf a 0) (I6 1)) fun j=>some (.normal,[j,zf a 1,zf a 2,zf a 3,zf a 4],[some (zG (zt d 0)++[[atD c 0,atD c 1,atD c 2,atD c 3]])]))) (some (.exit 4,[zf a 1,zf a 2,zf a 3,zf a 4],[zt d 0]))
def zpD(O:Orc)(a:DV)(b:List DV)(c:List OC):Option PX:=za (zY a) fun j=>za (zc .lss (zf b 0) j) fun k=>ifB k (za (yW 4 a (zf b 0)) fun e=>za (zc .rem (atD e 0) (U8 12)) fun l=>za (xx .i64 l) fun m=>za (zc .add (I6 36) m) fun g=>za (zc .add (I6 48) (zf b 0)) fun n=>za (xx .u8 n) fun o=>za (znE (.lst 1 [[o]])) fun p=>za (znx .add (.str ⟨#[68]⟩) p) fun q=>za (zc .rem (atD e 1) (U8 9)) fun r=>za (xx .i64 r) fun s=>za (zc .add g s) fun t=>z6 (zA (zpC O e b) [I6 0,q,atD e 2,g,t] [none]) (fun f d h=>bif Nat.beq f 4 then (gd (fits 64 (xR (zt c 0)+1)) (za (zc .add (zf b 0) (I6 1)) fun v=>some (.normal,[v,zf b 1,zf b 2],[some (zG (zt c 0)++[[zf d 0,zf d 1,zf d 2,zf d 3,mkL 4 (zt h 0)]]),zt c 1]))) else(bif Nat.beq f 3 then (za (zc .add (zf b 0) (I6 1)) fun w=>some (.normal,[w,zf b 1,zf b 2],[zt c 0,zt c 1])) else(some (.exit f,[zf b 1,zf b 2],[zt c 0,zt c 1])))) (fun _d _h=>none)) (some (.exit 2,[zf b 1,zf b 2],[zt c 0,zt c 1]))
def zyt(O:Orc)(a:DV)(d:List DV)(c:List OC):Option PX:=za (zY a) fun f=>za (zc .lss (zf d 0) f) fun g=>ifB g (za (yW 9 a (zf d 0)) fun b=>bA 6 (O 25 [SA [atD b 0,atD b 1,atD b 2,atD b 3,atD b 4,atD b 5,atD b 6,atD b 7,atD b 8],S1 (zf d 0)]) fun e=>gd (fits 80 (xR (zt c 0)+1)) (za (zc .add (zf d 0) (I6 1)) fun h=>some (.normal,[h,zf d 1],[some (zG (zt c 0)++[[atD e 0,atD e 1,atD e 2,atD e 3,atD e 4,atD e 5]]),zt c 1,zt c 2]))) (some (.exit 0,[zf d 1],[zt c 0,zt c 1,zt c 2]))
def P7(O:Orc)(a b c:DV):Option DA:=z6 (zA (zyt O a) [I6 0,.str ⟨#[79,114,103,97,110]⟩] [none,none,none]) (fun k j d=>bif Nat.beq k 0 then (z6 (zA (zpD O b) [I6 0,zf j 0,mkL 6 (zt d 0)] [zt d 1,zt d 2]) (fun l e f=>bif Nat.beq l 2 then (za (zY b) fun m=>z6 (zA (zpB c m) [I6 0,zf e 0,zf e 1] [zt f 0,zt f 1]) (fun n g h=>bif Nat.beq n 6 then (some (SA [zf g 0,zf g 1,mkL 5 (zt h 0),mkL 5 (zt h 1)])) else(none)) (fun _g _h=>none)) else(none)) (fun _e _f=>none)) else(none)) (fun _j _d=>none)
theorem p7(O:Orc)(a b c:DV):wM prog O yA (inl prog O yA zBz redI 6) an7 7 [SA [a,b,c]]=P7 O a b c:=by kernel_rfl
def an8:Nat→Option LA:=fun i=>match i with|0=>some ⟨[.slot 28,.cell 2 0,.cell 3 0],[],[(2,1),(3,1)],[],[.cell 2 0,.cell 3 0],[],[.cell 2 0,.cell 3 0],[],[]⟩|_=>none
def zBy:Nat→List PA→Nat→Nat→Option LA:=fun h _ n i=>match h,n,i with|28,0,999=>some ⟨[],[],[],[],[],[],[],[],[]⟩|56,6,0=>some ⟨[.slot 12],[(.cell 7 0,3)],[(7,1)],[],[],[(.cell 7 0,3)],[],[(.cell 7 0,3)],[]⟩|95,12,0=>some ⟨[.slot 4],[(.cell 7 0,3)],[(7,1)],[],[],[(.cell 7 0,3)],[.st 11 1000],[],[]⟩|95,11,0=>some ⟨[.slot 4],[(.cell 7 0,3)],[(7,1)],[],[],[(.cell 7 0,3)],[.st 10 1000],[],[]⟩|95,14,0=>some ⟨[.slot 4],[(.cell 7 0,3)],[(7,1)],[],[],[(.cell 7 0,3)],[.st 13 1000],[],[]⟩|56,18,0=>some ⟨[.slot 12],[(.cell 19 0,3)],[(19,1)],[],[],[(.cell 19 0,3)],[],[(.cell 19 0,3)],[]⟩|95,24,0=>some ⟨[.slot 4],[(.cell 19 0,3)],[(19,1)],[],[],[(.cell 19 0,3)],[.st 23 1000],[],[]⟩|95,23,0=>some ⟨[.slot 4],[(.cell 19 0,3)],[(19,1)],[],[],[(.cell 19 0,3)],[.st 22 1000],[],[]⟩|95,26,0=>some ⟨[.slot 4],[(.cell 19 0,3)],[(19,1)],[],[],[(.cell 19 0,3)],[.st 25 1000],[],[]⟩|29,27,0=>some ⟨[.slot 6,.slot 5],[],[],[(26,3)],[.slot 5],[],[],[],[]⟩|59,32,0=>some ⟨[.slot 4,.cell 28 0,.cell 28 1,.cell 28 2,.cell 2 0,.cell 3 0],[(.cell 27 0,3)],[(28,3),(27,1),(2,1),(3,1)],[],[.cell 28 0,.cell 28 1,.cell 28 2,.cell 2 0,.cell 3 0],[(.cell 27 0,3)],[.st 31 0,.cell 28 0,.cell 28 1,.cell 28 2,.cell 2 0,.cell 3 0],[(.cell 27 0,3)],[]⟩|2008001,33,0=>some ⟨[.slot 88,.cell 28 1,.cell 28 2],[(.cell 28 0,1)],[(28,3)],[],[.cell 28 1,.cell 28 2],[(.cell 28 0,1)],[.cell 28 1,.cell 28 2],[(.cell 28 0,1)],[]⟩|29,18,0=>some ⟨[.slot 6,.slot 5],[],[],[],[.slot 5],[],[],[],[]⟩|59,23,0=>some ⟨[.slot 4,.cell 19 0,.cell 19 1,.cell 19 2,.cell 2 0,.cell 3 0],[(.cell 18 0,3)],[(19,3),(18,1),(2,1),(3,1)],[],[.cell 19 0,.cell 19 1,.cell 19 2,.cell 2 0,.cell 3 0],[(.cell 18 0,3)],[.st 22 0,.cell 19 0,.cell 19 1,.cell 19 2,.cell 2 0,.cell 3 0],[(.cell 18 0,3)],[]⟩|2008001,24,0=>some ⟨[.slot 88,.cell 19 1,.cell 19 2],[(.cell 19 0,1)],[(19,3)],[],[.cell 19 1,.cell 19 2],[(.cell 19 0,1)],[.cell 19 1,.cell 19 2],[(.cell 19 0,1)],[]⟩|29,9,0=>some ⟨[.slot 6,.slot 5],[],[],[],[.slot 5],[],[],[],[]⟩|59,14,0=>some ⟨[.slot 4,.cell 10 0,.cell 10 1,.cell 10 2,.cell 2 0,.cell 3 0],[(.cell 9 0,3)],[(10,3),(9,1),(2,1),(3,1)],[],[.cell 10 0,.cell 10 1,.cell 10 2,.cell 2 0,.cell 3 0],[(.cell 9 0,3)],[.st 13 0,.cell 10 0,.cell 10 1,.cell 10 2,.cell 2 0,.cell 3 0],[(.cell 9 0,3)],[]⟩|2008001,15,0=>some ⟨[.slot 88,.cell 10 1,.cell 10 2],[(.cell 10 0,1)],[(10,3)],[],[.cell 10 1,.cell 10 2],[(.cell 10 0,1)],[.cell 10 1,.cell 10 2],[(.cell 10 0,1)],[]⟩|_,_,_=>none
def zys(d:Nat×Nat)(f:List OC)(e g:Nat×Nat)(a:List DV)(b:List OC):Option PX:=za (zc .lss (zf a 0) (.int .i64 (.ofNat d.2))) fun h=>ifB h (za (jV d.2 (zf a 0)) fun j=>za (jW (zms (zt f 0) e.1 e.2 [I6 0,I6 0,I6 0]) ((g.1+d.1)+j)) fun c=>za (zc .eql (atD c 0) (I6 1)) fun k=>ifB k (za (xe (zt b 0) (atD c 1)) fun l=>za (jW (zt b 0) l) fun m=>za (z7 true (U64 1) (atD c 2)) fun n=>za (zc .or (atD m 0) n) fun o=>za (xe (zt b 0) (atD c 1)) fun p=>za (zgo 1 (zt b 0) p 0 [o]) fun q=>za (zc .add (zf a 0) (I6 1)) fun r=>some (.normal,[r,zf a 1,zf a 2],[q])) (za (zc .eql (atD c 0) (I6 2)) fun s=>ifB s (za (z7 true (U64 1) (atD c 2)) fun t=>za (zc .or (zf a 1) t) fun v=>za (zc .add (zf a 0) (I6 1)) fun w=>some (.normal,[w,v,zf a 2],[zt b 0])) (za (zc .eql (atD c 0) (I6 3)) fun x=>ifB x (za (z7 true (U64 1) (atD c 1)) fun y=>za (zc .or (zf a 2) y) fun z=>za (zc .add (zf a 0) (I6 1)) fun A=>some (.normal,[A,zf a 1,z],[zt b 0])) (za (zc .add (zf a 0) (I6 1)) fun B=>some (.normal,[B,zf a 1,zf a 2],[zt b 0]))))) (some (.exit 5,[zf a 1,zf a 2],[zt b 0]))
def zyr(d:Nat×Nat)(f:List OC)(e g:Nat×Nat)(a:List DV)(b:List OC):Option PX:=za (zc .lss (zf a 0) (.int .i64 (.ofNat d.2))) fun h=>ifB h (za (jV d.2 (zf a 0)) fun j=>za (jW (zms (zt f 0) e.1 e.2 [I6 0,I6 0,I6 0]) ((g.1+d.1)+j)) fun c=>za (zc .eql (atD c 0) (I6 1)) fun k=>ifB k (za (xe (zt b 0) (atD c 1)) fun l=>za (jW (zt b 0) l) fun m=>za (z7 true (U64 1) (atD c 2)) fun n=>za (zc .or (atD m 0) n) fun o=>za (xe (zt b 0) (atD c 1)) fun p=>za (zgo 1 (zt b 0) p 0 [o]) fun q=>za (zc .add (zf a 0) (I6 1)) fun r=>some (.normal,[r,zf a 1,zf a 2],[q])) (za (zc .eql (atD c 0) (I6 2)) fun s=>ifB s (za (z7 true (U64 1) (atD c 2)) fun t=>za (zc .or (zf a 1) t) fun v=>za (zc .add (zf a 0) (I6 1)) fun w=>some (.normal,[w,v,zf a 2],[zt b 0])) (za (zc .eql (atD c 0) (I6 3)) fun x=>ifB x (za (z7 true (U64 1) (atD c 1)) fun y=>za (zc .or (zf a 2) y) fun z=>za (zc .add (zf a 0) (I6 1)) fun A=>some (.normal,[A,zf a 1,z],[zt b 0])) (za (zc .add (zf a 0) (I6 1)) fun B=>some (.normal,[B,zf a 1,zf a 2],[zt b 0]))))) (some (.exit 5,[zf a 1,zf a 2],[zt b 0]))
def zsE(f:Nat×Nat)(a:DV)(j:List OC)(k:Nat×Nat)(b:List DV)(c:List OC):Option PX:=za (zc .lss (zf b 0) (.int .i64 (.ofNat f.2))) fun q=>ifB q (za (vwB (some (zf b 0)) none f.2) fun r=>za (wp false a [.int .i64 (.ofNat r.2)]) fun l=>za (zc .add (zf b 0) l) fun s=>za (zc .add (zf b 0) l) fun t=>za (zmn (some (zf b 0)) (s) t f.2) fun m=>za (zc .eql (I6 (Int.ofNat (xR (zt c 0)))) (I6 100)) fun v=>ifB v (some (.ret,[I6 0,zf b 1,zf b 2,zf b 3,.nils,I6 4],[zt c 0])) (za (zau (zf b 1)) fun w=>ifB (.bool w) (z6 (zA (zyr m j k f) [I6 0,zf b 2,zf b 3] [none]) (fun n d g=>bif Nat.beq n 5 then (gd (fits 40 (xR (zt c 0)+1)) (za (zc .add (zf b 0) a) fun x=>some (.normal,[x,mkL 1 (zt g 0),zf d 0,zf d 1,zf b 4,zf b 5],[some (zG (zt c 0)++[[mkL 1 (zt g 0),zf d 0,zf d 1]])]))) else(bif Nat.beq n 4 then (za (zc .add (zf b 0) a) fun y=>some (.normal,[y,mkL 1 (zt g 0),zf d 0,zf d 1,zf b 4,zf b 5],[zt c 0])) else(none))) (fun _d _g=>none)) (za (vZ 1 (zf b 1)) fun o=>gd (fits 8 (xR (some [])+(o:List (List DV)).length)) (z6 (zA (zys m j k f) [I6 0,zf b 2,zf b 3] [zdU (some []) o]) (fun p e h=>bif Nat.beq p 5 then (gd (fits 40 (xR (zt c 0)+1)) (za (zc .add (zf b 0) a) fun z=>some (.normal,[z,mkL 1 (zt h 0),zf e 0,zf e 1,zf b 4,zf b 5],[some (zG (zt c 0)++[[mkL 1 (zt h 0),zf e 0,zf e 1]])]))) else(bif Nat.beq p 4 then (za (zc .add (zf b 0) a) fun A=>some (.normal,[A,mkL 1 (zt h 0),zf e 0,zf e 1,zf b 4,zf b 5],[zt c 0])) else(none))) (fun _e _h=>none))))) (some (.exit 0,[zf b 1,zf b 2,zf b 3,zf b 4,zf b 5],[zt c 0]))
def zdO(O:Orc)(d:List OC)(a:List DV)(b:List OC):Option PX:=za (zc .lss (zf a 0) (I6 (Int.ofNat (xR (zt b 0))))) fun e=>ifB e (za (xe (zt b 0) (zf a 0)) fun f=>za (jW (zt b 0) f) fun c=>b1s (O 30 [SA [atD c 0,atD c 1,atD c 2],.s (.one (.fp [mkL 3 (zt d 0)] 0))]) fun g=>za (uE g) fun h=>ifB h (za (xe (zt b 0) (zf a 1)) fun j=>za (zgo 3 (zt b 0) j 0 [atD c 0,atD c 1,atD c 2]) fun k=>za (zc .add (zf a 1) (I6 1)) fun l=>za (zc .add (zf a 0) (I6 1)) fun m=>some (.normal,[m,l],[k])) (za (zc .add (zf a 0) (I6 1)) fun n=>some (.normal,[n,zf a 1],[zt b 0]))) (some (.exit 0,[zf a 1],[zt b 0]))
def zyp(d:Nat×Nat)(e:List OC)(a:List DV)(b:List OC):Option PX:=za (zc .lss (zf a 0) (.int .i64 (.ofNat d.2))) fun f=>ifB f (za (jV d.2 (zf a 0)) fun g=>za (jW (zt e 0) (d.1+g)) fun c=>za (zc .eql (atD c 0) (I6 1)) fun h=>ifB h (za (xe (zt b 0) (atD c 1)) fun j=>za (jW (zt b 0) j) fun k=>za (z7 true (U64 1) (atD c 2)) fun l=>za (zc .or (atD k 0) l) fun m=>za (xe (zt b 0) (atD c 1)) fun n=>za (zgo 1 (zt b 0) n 0 [m]) fun o=>za (zc .add (zf a 0) (I6 1)) fun p=>some (.normal,[p,zf a 1,zf a 2],[o])) (za (zc .eql (atD c 0) (I6 2)) fun q=>ifB q (za (z7 true (U64 1) (atD c 2)) fun r=>za (zc .or (zf a 1) r) fun s=>za (zc .add (zf a 0) (I6 1)) fun t=>some (.normal,[t,s,zf a 2],[zt b 0])) (za (zc .eql (atD c 0) (I6 3)) fun v=>ifB v (za (z7 true (U64 1) (atD c 1)) fun w=>za (zc .or (zf a 2) w) fun x=>za (zc .add (zf a 0) (I6 1)) fun y=>some (.normal,[y,zf a 1,x],[zt b 0])) (za (zc .add (zf a 0) (I6 1)) fun z=>some (.normal,[z,zf a 1,zf a 2],[zt b 0]))))) (some (.exit 5,[zf a 1,zf a 2],[zt b 0]))
def zyo(d:Nat×Nat)(e:List OC)(a:List DV)(b:List OC):Option PX:=za (zc .lss (zf a 0) (.int .i64 (.ofNat d.2))) fun f=>ifB f (za (jV d.2 (zf a 0)) fun g=>za (jW (zt e 0) (d.1+g)) fun c=>za (zc .eql (atD c 0) (I6 1)) fun h=>ifB h (za (xe (zt b 0) (atD c 1)) fun j=>za (jW (zt b 0) j) fun k=>za (z7 true (U64 1) (atD c 2)) fun l=>za (zc .or (atD k 0) l) fun m=>za (xe (zt b 0) (atD c 1)) fun n=>za (zgo 1 (zt b 0) n 0 [m]) fun o=>za (zc .add (zf a 0) (I6 1)) fun p=>some (.normal,[p,zf a 1,zf a 2],[o])) (za (zc .eql (atD c 0) (I6 2)) fun q=>ifB q (za (z7 true (U64 1) (atD c 2)) fun r=>za (zc .or (zf a 1) r) fun s=>za (zc .add (zf a 0) (I6 1)) fun t=>some (.normal,[t,s,zf a 2],[zt b 0])) (za (zc .eql (atD c 0) (I6 3)) fun v=>ifB v (za (z7 true (U64 1) (atD c 1)) fun w=>za (zc .or (zf a 2) w) fun x=>za (zc .add (zf a 0) (I6 1)) fun y=>some (.normal,[y,zf a 1,x],[zt b 0])) (za (zc .add (zf a 0) (I6 1)) fun z=>some (.normal,[z,zf a 1,zf a 2],[zt b 0]))))) (some (.exit 5,[zf a 1,zf a 2],[zt b 0]))
def zpA(f:List OC)(a:DV)(b:List DV)(c:List OC):Option PX:=za (zc .lss (zf b 0) (I6 (Int.ofNat (xR (zt f 0))))) fun o=>ifB o (za (vwB (some (zf b 0)) none (xR (zt f 0))) fun p=>za (wp false a [.int .i64 (.ofNat p.2)]) fun j=>za (zc .add (zf b 0) j) fun q=>za (zc .add (zf b 0) j) fun r=>za (zmn (some (zf b 0)) (q) r (xR (zt f 0))) fun k=>za (zc .eql (I6 (Int.ofNat (xR (zt c 0)))) (I6 100)) fun s=>ifB s (some (.ret,[I6 0,zf b 1,zf b 2,zf b 3,.nils,I6 4],[zt c 0])) (za (zau (zf b 1)) fun t=>ifB (.bool t) (z6 (zA (zyo k f) [I6 0,zf b 2,zf b 3] [none]) (fun l d g=>bif Nat.beq l 5 then (gd (fits 40 (xR (zt c 0)+1)) (za (zc .add (zf b 0) a) fun v=>some (.normal,[v,mkL 1 (zt g 0),zf d 0,zf d 1,zf b 4,zf b 5],[some (zG (zt c 0)++[[mkL 1 (zt g 0),zf d 0,zf d 1]])]))) else(bif Nat.beq l 4 then (za (zc .add (zf b 0) a) fun w=>some (.normal,[w,mkL 1 (zt g 0),zf d 0,zf d 1,zf b 4,zf b 5],[zt c 0])) else(none))) (fun _d _g=>none)) (za (vZ 1 (zf b 1)) fun m=>gd (fits 8 (xR (some [])+(m:List (List DV)).length)) (z6 (zA (zyp k f) [I6 0,zf b 2,zf b 3] [zdU (some []) m]) (fun n e h=>bif Nat.beq n 5 then (gd (fits 40 (xR (zt c 0)+1)) (za (zc .add (zf b 0) a) fun x=>some (.normal,[x,mkL 1 (zt h 0),zf e 0,zf e 1,zf b 4,zf b 5],[some (zG (zt c 0)++[[mkL 1 (zt h 0),zf e 0,zf e 1]])]))) else(bif Nat.beq n 4 then (za (zc .add (zf b 0) a) fun y=>some (.normal,[y,mkL 1 (zt h 0),zf e 0,zf e 1,zf b 4,zf b 5],[zt c 0])) else(none))) (fun _e _h=>none))))) (some (.exit 0,[zf b 1,zf b 2,zf b 3,zf b 4,zf b 5],[zt c 0]))
def zyf(a:DV)(b:List DV)(c:List OC):Option PX:=za (zc .lss (zf b 0) (I6 64)) fun d=>ifB d (za (z7 false a (zf b 0)) fun e=>za (zc .and e (U64 1)) fun f=>za (zc .eql f (U64 1)) fun g=>ifB g (gd (fits 24 (xR (zt c 0)+1)) (za (zc .add (zf b 0) (I6 1)) fun h=>some (.normal,[h],[some (zG (zt c 0)++[[I6 3,zf b 0,I6 0]])]))) (za (zc .add (zf b 0) (I6 1)) fun j=>some (.normal,[j],[zt c 0]))) (some (.exit 0,[],[zt c 0]))
def zyg(a:DV)(b:List DV)(c:List OC):Option PX:=za (zc .lss (zf b 0) (I6 64)) fun d=>ifB d (za (z7 false a (zf b 0)) fun e=>za (zc .and e (U64 1)) fun f=>za (zc .eql f (U64 1)) fun g=>ifB g (gd (fits 24 (xR (zt c 0)+1)) (za (zc .add (zf b 0) (I6 1)) fun h=>some (.normal,[h],[some (zG (zt c 0)++[[I6 2,I6 0,zf b 0]])]))) (za (zc .add (zf b 0) (I6 1)) fun j=>some (.normal,[j],[zt c 0]))) (some (.exit 0,[],[zt c 0]))
def zAY(c d:List DV)(a:List DV)(b:List OC):Option PX:=za (zc .lss (zf a 0) (I6 64)) fun e=>ifB e (za (z7 false (atD c 0) (zf a 0)) fun f=>za (zc .and f (U64 1)) fun g=>za (zc .eql g (U64 1)) fun h=>ifB h (gd (fits 24 (xR (zt b 0)+1)) (za (zc .add (zf a 0) (I6 1)) fun j=>some (.normal,[j],[some (zG (zt b 0)++[[I6 1,zf d 0,zf a 0]])]))) (za (zc .add (zf a 0) (I6 1)) fun k=>some (.normal,[k],[zt b 0]))) (some (.exit 0,[],[zt b 0]))
def zyh(e a:DV)(b:List DV)(c:List OC):Option PX:=za (zc .lss (zf b 0) e) fun f=>ifB f (za (yW 1 a (zf b 0)) fun g=>z6 (zA (zAY g b) [I6 0] [zt c 0]) (fun h _j d=>bif Nat.beq h 0 then (za (zc .add (zf b 0) (I6 1)) fun k=>some (.normal,[k],[zt d 0])) else(none)) (fun _j _d=>none)) (some (.exit 0,[],[zt c 0]))
def zyn(O:Orc)(c:List OC)(a:List DV)(_j:List OC):Option PX:=za (zY .nils) fun d=>za (zc .lss (zf a 0) d) fun e=>ifB e (za (yW 3 .nils (zf a 0)) fun b=>b1s (O 30 [SA [atD b 0,atD b 1,atD b 2],.s (.one (.fp [mkL 3 (zt c 0)] 0))]) fun f=>za (uE f) fun g=>ifB g (za (yW 3 .nils (zf a 1)) fun _k=>none) (za (zc .add (zf a 0) (I6 1)) fun h=>some (.normal,[h,zf a 1],[]))) (some (.exit 0,[zf a 1],[]))
def zyl(d e:DV)(a:List DV)(b:List OC):Option PX:=za (zc .lss (zf a 0) d) fun f=>ifB f (za (yW 3 e (zf a 0)) fun c=>za (zc .eql (atD c 0) (I6 1)) fun g=>ifB g (za (xe (zt b 0) (atD c 1)) fun h=>za (jW (zt b 0) h) fun j=>za (z7 true (U64 1) (atD c 2)) fun k=>za (zc .or (atD j 0) k) fun l=>za (xe (zt b 0) (atD c 1)) fun m=>za (zgo 1 (zt b 0) m 0 [l]) fun n=>za (zc .add (zf a 0) (I6 1)) fun o=>some (.normal,[o,zf a 1,zf a 2],[n])) (za (zc .eql (atD c 0) (I6 2)) fun p=>ifB p (za (z7 true (U64 1) (atD c 2)) fun q=>za (zc .or (zf a 1) q) fun r=>za (zc .add (zf a 0) (I6 1)) fun s=>some (.normal,[s,r,zf a 2],[zt b 0])) (za (zc .eql (atD c 0) (I6 3)) fun t=>ifB t (za (z7 true (U64 1) (atD c 1)) fun v=>za (zc .or (zf a 2) v) fun w=>za (zc .add (zf a 0) (I6 1)) fun x=>some (.normal,[x,zf a 1,w],[zt b 0])) (za (zc .add (zf a 0) (I6 1)) fun y=>some (.normal,[y,zf a 1,zf a 2],[zt b 0]))))) (some (.exit 5,[zf a 1,zf a 2],[zt b 0]))
def zyk(d e:DV)(a:List DV)(b:List OC):Option PX:=za (zc .lss (zf a 0) d) fun f=>ifB f (za (yW 3 e (zf a 0)) fun c=>za (zc .eql (atD c 0) (I6 1)) fun g=>ifB g (za (xe (zt b 0) (atD c 1)) fun h=>za (jW (zt b 0) h) fun j=>za (z7 true (U64 1) (atD c 2)) fun k=>za (zc .or (atD j 0) k) fun l=>za (xe (zt b 0) (atD c 1)) fun m=>za (zgo 1 (zt b 0) m 0 [l]) fun n=>za (zc .add (zf a 0) (I6 1)) fun o=>some (.normal,[o,zf a 1,zf a 2],[n])) (za (zc .eql (atD c 0) (I6 2)) fun p=>ifB p (za (z7 true (U64 1) (atD c 2)) fun q=>za (zc .or (zf a 1) q) fun r=>za (zc .add (zf a 0) (I6 1)) fun s=>some (.normal,[s,r,zf a 2],[zt b 0])) (za (zc .eql (atD c 0) (I6 3)) fun t=>ifB t (za (z7 true (U64 1) (atD c 1)) fun v=>za (zc .or (zf a 2) v) fun w=>za (zc .add (zf a 0) (I6 1)) fun x=>some (.normal,[x,zf a 1,w],[zt b 0])) (za (zc .add (zf a 0) (I6 1)) fun y=>some (.normal,[y,zf a 1,zf a 2],[zt b 0]))))) (some (.exit 5,[zf a 1,zf a 2],[zt b 0]))
def zym(a:DV)(b:List DV)(c:List OC):Option PX:=za (zY .nils) fun n=>za (zc .lss (zf b 0) n) fun o=>ifB o (za (vY 3 .nils (some (zf b 0)) none) fun p=>za (zY p) fun q=>za (wp false a [q]) fun j=>za (zc .add (zf b 0) j) fun r=>za (zc .add (zf b 0) j) fun s=>za (qW 3 .nils (some (zf b 0)) (r) s) fun f=>za (zc .eql (I6 (Int.ofNat (xR (zt c 0)))) (I6 100)) fun t=>ifB t (some (.ret,[I6 0,zf b 1,zf b 2,zf b 3,.nils,I6 4],[zt c 0])) (za (zau (zf b 1)) fun v=>ifB (.bool v) (za (zY f) fun w=>z6 (zA (zyk w f) [I6 0,zf b 2,zf b 3] [none]) (fun k d g=>bif Nat.beq k 5 then (gd (fits 40 (xR (zt c 0)+1)) (za (zc .add (zf b 0) a) fun x=>some (.normal,[x,mkL 1 (zt g 0),zf d 0,zf d 1,zf b 4,zf b 5],[some (zG (zt c 0)++[[mkL 1 (zt g 0),zf d 0,zf d 1]])]))) else(bif Nat.beq k 4 then (za (zc .add (zf b 0) a) fun y=>some (.normal,[y,mkL 1 (zt g 0),zf d 0,zf d 1,zf b 4,zf b 5],[zt c 0])) else(none))) (fun _d _g=>none)) (za (vZ 1 (zf b 1)) fun l=>gd (fits 8 (xR (some [])+(l:List (List DV)).length)) (za (zY f) fun z=>z6 (zA (zyl z f) [I6 0,zf b 2,zf b 3] [zdU (some []) l]) (fun m e h=>bif Nat.beq m 5 then (gd (fits 40 (xR (zt c 0)+1)) (za (zc .add (zf b 0) a) fun A=>some (.normal,[A,mkL 1 (zt h 0),zf e 0,zf e 1,zf b 4,zf b 5],[some (zG (zt c 0)++[[mkL 1 (zt h 0),zf e 0,zf e 1]])]))) else(bif Nat.beq m 4 then (za (zc .add (zf b 0) a) fun B=>some (.normal,[B,mkL 1 (zt h 0),zf e 0,zf e 1,zf b 4,zf b 5],[zt c 0])) else(none))) (fun _e _h=>none))))) (some (.exit 0,[zf b 1,zf b 2,zf b 3,zf b 4,zf b 5],[zt c 0]))
def zyi(a:DV)(b:List DV)(c:List OC):Option PX:=za (zc .lss (zf b 0) (I6 64)) fun d=>ifB d (za (z7 false a (zf b 0)) fun e=>za (zc .and e (U64 1)) fun f=>za (zc .eql f (U64 1)) fun g=>ifB g (gd (fits 24 (xR (zt c 0)+1)) (za (zc .add (zf b 0) (I6 1)) fun h=>some (.normal,[h],[some (zG (zt c 0)++[[I6 3,zf b 0,I6 0]])]))) (za (zc .add (zf b 0) (I6 1)) fun j=>some (.normal,[j],[zt c 0]))) (some (.exit 0,[],[zt c 0]))
def zyj(a:DV)(b:List DV)(c:List OC):Option PX:=za (zc .lss (zf b 0) (I6 64)) fun d=>ifB d (za (z7 false a (zf b 0)) fun e=>za (zc .and e (U64 1)) fun f=>za (zc .eql f (U64 1)) fun g=>ifB g (gd (fits 24 (xR (zt c 0)+1)) (za (zc .add (zf b 0) (I6 1)) fun h=>some (.normal,[h],[some (zG (zt c 0)++[[I6 2,I6 0,zf b 0]])]))) (za (zc .add (zf b 0) (I6 1)) fun j=>some (.normal,[j],[zt c 0]))) (some (.exit 0,[],[zt c 0]))
def zAZ(c d:List DV)(a:List DV)(b:List OC):Option PX:=za (zc .lss (zf a 0) (I6 64)) fun e=>ifB e (za (z7 false (atD c 0) (zf a 0)) fun f=>za (zc .and f (U64 1)) fun g=>za (zc .eql g (U64 1)) fun h=>ifB h (gd (fits 24 (xR (zt b 0)+1)) (za (zc .add (zf a 0) (I6 1)) fun j=>some (.normal,[j],[some (zG (zt b 0)++[[I6 1,zf d 0,zf a 0]])]))) (za (zc .add (zf a 0) (I6 1)) fun k=>some (.normal,[k],[zt b 0]))) (some (.exit 0,[],[zt b 0]))
def zyq(e a:DV)(b:List DV)(c:List OC):Option PX:=za (zc .lss (zf b 0) e) fun f=>ifB f (za (yW 1 a (zf b 0)) fun g=>z6 (zA (zAZ g b) [I6 0] [zt c 0]) (fun h _j d=>bif Nat.beq h 0 then (za (zc .add (zf b 0) (I6 1)) fun k=>some (.normal,[k],[zt d 0])) else(none)) (fun _j _d=>none)) (some (.exit 0,[],[zt c 0]))
def zu6(O:Orc)(a:List DV)(_h:List OC):Option PX:=za (zY .nils) fun c=>za (zc .lss (zf a 0) c) fun d=>ifB d (za (yW 3 .nils (zf a 0)) fun b=>b1s (O 30 [SA [atD b 0,atD b 1,atD b 2],S1 (.fp [.nils] 0)]) fun e=>za (uE e) fun f=>ifB f (za (yW 3 .nils (zf a 1)) fun _j=>none) (za (zc .add (zf a 0) (I6 1)) fun g=>some (.normal,[g,zf a 1],[]))) (some (.exit 0,[zf a 1],[]))
def zu4(d e:DV)(a:List DV)(b:List OC):Option PX:=za (zc .lss (zf a 0) d) fun f=>ifB f (za (yW 3 e (zf a 0)) fun c=>za (zc .eql (atD c 0) (I6 1)) fun g=>ifB g (za (xe (zt b 0) (atD c 1)) fun h=>za (jW (zt b 0) h) fun j=>za (z7 true (U64 1) (atD c 2)) fun k=>za (zc .or (atD j 0) k) fun l=>za (xe (zt b 0) (atD c 1)) fun m=>za (zgo 1 (zt b 0) m 0 [l]) fun n=>za (zc .add (zf a 0) (I6 1)) fun o=>some (.normal,[o,zf a 1,zf a 2],[n])) (za (zc .eql (atD c 0) (I6 2)) fun p=>ifB p (za (z7 true (U64 1) (atD c 2)) fun q=>za (zc .or (zf a 1) q) fun r=>za (zc .add (zf a 0) (I6 1)) fun s=>some (.normal,[s,r,zf a 2],[zt b 0])) (za (zc .eql (atD c 0) (I6 3)) fun t=>ifB t (za (z7 true (U64 1) (atD c 1)) fun v=>za (zc .or (zf a 2) v) fun w=>za (zc .add (zf a 0) (I6 1)) fun x=>some (.normal,[x,zf a 1,w],[zt b 0])) (za (zc .add (zf a 0) (I6 1)) fun y=>some (.normal,[y,zf a 1,zf a 2],[zt b 0]))))) (some (.exit 5,[zf a 1,zf a 2],[zt b 0]))
def zu3(d e:DV)(a:List DV)(b:List OC):Option PX:=za (zc .lss (zf a 0) d) fun f=>ifB f (za (yW 3 e (zf a 0)) fun c=>za (zc .eql (atD c 0) (I6 1)) fun g=>ifB g (za (xe (zt b 0) (atD c 1)) fun h=>za (jW (zt b 0) h) fun j=>za (z7 true (U64 1) (atD c 2)) fun k=>za (zc .or (atD j 0) k) fun l=>za (xe (zt b 0) (atD c 1)) fun m=>za (zgo 1 (zt b 0) m 0 [l]) fun n=>za (zc .add (zf a 0) (I6 1)) fun o=>some (.normal,[o,zf a 1,zf a 2],[n])) (za (zc .eql (atD c 0) (I6 2)) fun p=>ifB p (za (z7 true (U64 1) (atD c 2)) fun q=>za (zc .or (zf a 1) q) fun r=>za (zc .add (zf a 0) (I6 1)) fun s=>some (.normal,[s,r,zf a 2],[zt b 0])) (za (zc .eql (atD c 0) (I6 3)) fun t=>ifB t (za (z7 true (U64 1) (atD c 1)) fun v=>za (zc .or (zf a 2) v) fun w=>za (zc .add (zf a 0) (I6 1)) fun x=>some (.normal,[x,zf a 1,w],[zt b 0])) (za (zc .add (zf a 0) (I6 1)) fun y=>some (.normal,[y,zf a 1,zf a 2],[zt b 0]))))) (some (.exit 5,[zf a 1,zf a 2],[zt b 0]))
def zu5(a:DV)(b:List DV)(c:List OC):Option PX:=za (zY .nils) fun n=>za (zc .lss (zf b 0) n) fun o=>ifB o (za (vY 3 .nils (some (zf b 0)) none) fun p=>za (zY p) fun q=>za (wp false a [q]) fun j=>za (zc .add (zf b 0) j) fun r=>za (zc .add (zf b 0) j) fun s=>za (qW 3 .nils (some (zf b 0)) (r) s) fun f=>za (zc .eql (I6 (Int.ofNat (xR (zt c 0)))) (I6 100)) fun t=>ifB t (some (.ret,[I6 0,zf b 1,zf b 2,zf b 3,.nils,I6 4],[zt c 0])) (za (zau (zf b 1)) fun v=>ifB (.bool v) (za (zY f) fun w=>z6 (zA (zu3 w f) [I6 0,zf b 2,zf b 3] [none]) (fun k d g=>bif Nat.beq k 5 then (gd (fits 40 (xR (zt c 0)+1)) (za (zc .add (zf b 0) a) fun x=>some (.normal,[x,mkL 1 (zt g 0),zf d 0,zf d 1,zf b 4,zf b 5],[some (zG (zt c 0)++[[mkL 1 (zt g 0),zf d 0,zf d 1]])]))) else(bif Nat.beq k 4 then (za (zc .add (zf b 0) a) fun y=>some (.normal,[y,mkL 1 (zt g 0),zf d 0,zf d 1,zf b 4,zf b 5],[zt c 0])) else(none))) (fun _d _g=>none)) (za (vZ 1 (zf b 1)) fun l=>gd (fits 8 (xR (some [])+(l:List (List DV)).length)) (za (zY f) fun z=>z6 (zA (zu4 z f) [I6 0,zf b 2,zf b 3] [zdU (some []) l]) (fun m e h=>bif Nat.beq m 5 then (gd (fits 40 (xR (zt c 0)+1)) (za (zc .add (zf b 0) a) fun A=>some (.normal,[A,mkL 1 (zt h 0),zf e 0,zf e 1,zf b 4,zf b 5],[some (zG (zt c 0)++[[mkL 1 (zt h 0),zf e 0,zf e 1]])]))) else(bif Nat.beq m 4 then (za (zc .add (zf b 0) a) fun B=>some (.normal,[B,mkL 1 (zt h 0),zf e 0,zf e 1,zf b 4,zf b 5],[zt c 0])) else(none))) (fun _e _h=>none))))) (some (.exit 0,[zf b 1,zf b 2,zf b 3,zf b 4,zf b 5],[zt c 0]))
def zu2(O:Orc)(a b c d f h j m r s:DV)(e:List DV)(_p:List OC):Option PX:=za (zc .lss (zf e 0) (I6 2)) fun l=>ifB l (za (jV 2 (zf e 0)) fun g=>b1 (O 10 [SA [a,b,c,d],SA [atD [f,h] g,atD [j,m] g,atD [r,s] g]]) fun k=>za (zc .neq k (I6 0)) fun n=>ifB n (some (.ret,[.nils,k],[])) (za (zc .add (zf e 0) (I6 1)) fun o=>some (.normal,[o,zf e 1,zf e 2],[]))) (some (.exit 0,[zf e 1,zf e 2],[]))
def P8(O:Orc)(a b c d f h j m r s w:DV):Option DA:=b1 (O 27 [SA [a,b,c,d]]) fun E=>za (zc .neq E (I6 0)) fun R=>ifB R (some (.tup [.one .nils,.one E])) (z6 (zA (zu2 O a b c d f m h r j s) [I6 0,.nils,I6 0] []) (fun S e _T=>bif Nat.beq S 0 then (za (zc .lss w (I6 1)) fun U=>ifB U (some (.tup [.one .nils,.one (I6 3)])) (b1 (O 18 [SA [f,h,j],SA [m,r,s]]) fun V=>za (uE V) fun W=>ifB W (some (.tup [.one .nils,.one (I6 6)])) (b1 (O 55 [SA [a,b,c,d],SA [f,h,j]]) fun n=>za (zc .neq n (I6 0)) fun X=>ifB X (za (zc .neq n (I6 0)) fun Y=>ifB Y (some (.tup [.one .nils,.one n])) (b1 (O 55 [SA [a,b,c,d],SA [m,r,s]]) fun o=>za (zc .neq o (I6 0)) fun Z=>ifB Z (za (zc .neq o (I6 0)) fun aa=>ifB aa (some (.tup [.one .nils,.one o])) (b1s (O 57 [.s (.one .nils),S1 (.fn 30 [[.nils]])]) fun p=>za (zc .eql p (I6 (-1))) fun ab=>ifB ab (za (zc .lss w (I6 1)) fun ac=>ifB ac (none) (z6 (zA (zu5 w) [I6 0,f,h,j,zf e 0,zf e 1] [none]) (fun ad _q F=>bif Nat.beq ad 0 then (some (.tup [.one (mkL 3 (zt F 0)),.one (I6 0)])) else(none)) (fun q _F=>some (.tup [.one (zf q 4),.one (zf q 5)])))) (za (zc .add p (I6 1)) fun ae=>z6 (zA (zu6 O) [ae,p] []) (fun af G _ag=>bif Nat.beq af 0 then (za (vY 3 .nils (some (zf G 0)) none) fun _bs=>none) else(none)) (fun _G _ag=>none)))) (za (zY m) fun _bt=>none))) (za (zY f) fun ah=>z6 (zA (zyq ah f) [I6 0] [none]) (fun aj _ak H=>bif Nat.beq aj 0 then (z6 (zA (zyj h) [I6 0] [zt H 0]) (fun al _am J=>bif Nat.beq al 0 then (z6 (zA (zyi j) [I6 0] [zt J 0]) (fun an _ao g=>bif Nat.beq an 0 then (za (zc .neq (I6 0) (I6 0)) fun ap=>ifB ap (some (.tup [.one .nils,.one (I6 0)])) (b1 (O 55 [SA [a,b,c,d],SA [m,r,s]]) fun t=>za (zc .neq t (I6 0)) fun aq=>ifB aq (za (zc .neq t (I6 0)) fun ar=>ifB ar (some (.tup [.one .nils,.one t])) (b1s (O 57 [.s (.one .nils),.s (.one (.fn 30 [[mkL 3 (zt g 0)]]))]) fun v=>za (zc .eql v (I6 (-1))) fun au=>ifB au (za (zc .lss w (I6 1)) fun av=>ifB av (none) (z6 (zA (zym w) [I6 0,f,h,j,zf e 0,zf e 1] [none]) (fun aw _x K=>bif Nat.beq aw 0 then (some (.tup [.one (mkL 3 (zt K 0)),.one (I6 0)])) else(none)) (fun x _K=>some (.tup [.one (zf x 4),.one (zf x 5)])))) (za (zc .add v (I6 1)) fun ax=>z6 (zA (zyn O g) [ax,v] []) (fun ay L _ba=>bif Nat.beq ay 0 then (za (vY 3 .nils (some (zf L 0)) none) fun _bu=>none) else(none)) (fun _L _ba=>none)))) (za (zY m) fun bb=>z6 (zA (zyh bb m) [I6 0] [none]) (fun bc _bd M=>bif Nat.beq bc 0 then (z6 (zA (zyg r) [I6 0] [zt M 0]) (fun be _bf N=>bif Nat.beq be 0 then (z6 (zA (zyf s) [I6 0] [zt N 0]) (fun bg _bh k=>bif Nat.beq bg 0 then (za (zc .neq (I6 0) (I6 0)) fun bj=>ifB bj (some (.tup [.one .nils,.one (I6 0)])) (b1s (O 57 [S1 (mkL 3 (zt k 0)),.s (.one (.fn 30 [[mkL 3 (zt g 0)]]))]) fun y=>za (zc .eql y (I6 (-1))) fun bk=>ifB bk (za (zc .lss w (I6 1)) fun bl=>ifB bl (none) (z6 (zA (zpA k w) [I6 0,f,h,j,zf e 0,zf e 1] [none]) (fun bm _z P=>bif Nat.beq bm 0 then (some (.tup [.one (mkL 3 (zt P 0)),.one (I6 0)])) else(none)) (fun z _P=>some (.tup [.one (zf z 4),.one (zf z 5)])))) (za (zc .add y (I6 1)) fun bn=>z6 (zA (zdO O g) [bn,y] [zt k 0]) (fun bo A l=>bif Nat.beq bo 0 then (za (vwB (some (zf A 0)) none (xR (zt l 0))) fun B=>za (vwB none (some (zf A 0)) (xR (zms (zt l 0) B.1 B.2 [I6 0,I6 0,I6 0]))) fun bp=>za (zc .lss w (I6 1)) fun bq=>ifB bq (none) (z6 (zA (zsE bp w l B) [I6 0,f,h,j,zf e 0,zf e 1] [none]) (fun br _C Q=>bif Nat.beq br 0 then (some (.tup [.one (mkL 3 (zt Q 0)),.one (I6 0)])) else(none)) (fun C _Q=>some (.tup [.one (zf C 4),.one (zf C 5)])))) else(none)) (fun _A _l=>none)))) else(none)) (fun _bh _k=>none)) else(none)) (fun _bf _N=>none)) else(none)) (fun _bd _M=>none)))) else(none)) (fun _ao _g=>none)) else(none)) (fun _am _J=>none)) else(none)) (fun _ak _H=>none))))) else(none)) (fun e _T=>some (.tup [.one (zf e 0),.one (zf e 1)])))
theorem p8(O:Orc)(a b c d f h j m r s w:DV):wM prog O yA (inl prog O yA zBy redI 6) an8 8 [SA [a,b,c,d],SA [f,h,j,m,r,s,w]]=P8 O a b c d f h j m r s w:=by kernel_rfl
def zBU:Nat→Option LA:=fun i=>match i with|0=>some ⟨[.slot 23],[],[],[],[],[],[.slot 4],[],[]⟩|_=>none
def zx7:Nat→List PA→Nat→Nat→Option LA:=fun h _ n i=>match h,n,i with|28,0,999=>some ⟨[],[],[],[],[],[],[],[],[]⟩  |_,_,_=>none
def zpN(d a b:DV)(c:List DV)(_m:List OC):Option PX:=za (zc .lss (zf c 0) d) fun e=>ifB e (za (yW 5 a (zf c 0)) fun f=>za (yW 1 b (zf c 0)) fun g=>za (zY (atD f 4)) fun h=>za (z7 false (atD g 0) h) fun j=>za (zc .neq j (U64 0)) fun k=>ifB k (some (.ret,[I6 3],[])) (za (zc .add (zf c 0) (I6 1)) fun l=>some (.normal,[l],[]))) (some (.exit 0,[],[]))
def P10(O:Orc)(a b c d f h j:DV):Option DA:=b1 (O 27 [SA [a,b,c,d]]) fun e=>za (zc .neq e (I6 0)) fun k=>ifB k (some (S1 e)) (za (zY f) fun l=>za (zY c) fun m=>za (zc .neq l m) fun n=>ifB n (some (S1 (I6 5))) (za (zY c) fun o=>z6 (zA (zpN o c f) [I6 0] []) (fun p _g _q=>bif Nat.beq p 0 then (za (zY d) fun r=>za (z7 false h r) fun s=>za (zc .neq s (U64 0)) fun t=>ifB t (some (S1 (I6 3))) (za (zY c) fun v=>za (z7 false j v) fun w=>za (zc .neq w (U64 0)) fun x=>ifB x (some (S1 (I6 3))) (some (S1 (I6 0))))) else(none)) (fun g _q=>some (S1 (zf g 0)))))
theorem p10(O:Orc)(a b c d f h j:DV):wM prog O yA (inl prog O yA zx7 redI 6) zBU 10 [SA [a,b,c,d],SA [f,h,j]]=P10 O a b c d f h j:=by kernel_rfl
def zhI(a:DV)(b:List DV)(c:List OC):Option PX:=za (zc .lss (zf b 0) (I6 64)) fun d=>ifB d (za (z7 false a (zf b 0)) fun e=>za (zc .and e (U64 1)) fun f=>za (zc .eql f (U64 1)) fun g=>ifB g (gd (fits 24 (xR (zt c 0)+1)) (za (zc .add (zf b 0) (I6 1)) fun h=>some (.normal,[h],[some (zG (zt c 0)++[[I6 3,zf b 0,I6 0]])]))) (za (zc .add (zf b 0) (I6 1)) fun j=>some (.normal,[j],[zt c 0]))) (some (.exit 0,[],[zt c 0]))
def zhJ(a:DV)(b:List DV)(c:List OC):Option PX:=za (zc .lss (zf b 0) (I6 64)) fun d=>ifB d (za (z7 false a (zf b 0)) fun e=>za (zc .and e (U64 1)) fun f=>za (zc .eql f (U64 1)) fun g=>ifB g (gd (fits 24 (xR (zt c 0)+1)) (za (zc .add (zf b 0) (I6 1)) fun h=>some (.normal,[h],[some (zG (zt c 0)++[[I6 2,I6 0,zf b 0]])]))) (za (zc .add (zf b 0) (I6 1)) fun j=>some (.normal,[j],[zt c 0]))) (some (.exit 0,[],[zt c 0]))
def zsF(c d:List DV)(a:List DV)(b:List OC):Option PX:=za (zc .lss (zf a 0) (I6 64)) fun e=>ifB e (za (z7 false (atD c 0) (zf a 0)) fun f=>za (zc .and f (U64 1)) fun g=>za (zc .eql g (U64 1)) fun h=>ifB h (gd (fits 24 (xR (zt b 0)+1)) (za (zc .add (zf a 0) (I6 1)) fun j=>some (.normal,[j],[some (zG (zt b 0)++[[I6 1,zf d 0,zf a 0]])]))) (za (zc .add (zf a 0) (I6 1)) fun k=>some (.normal,[k],[zt b 0]))) (some (.exit 0,[],[zt b 0]))
def zmm(e a:DV)(b:List DV)(c:List OC):Option PX:=za (zc .lss (zf b 0) e) fun f=>ifB f (za (yW 1 a (zf b 0)) fun g=>z6 (zA (zsF g b) [I6 0] [zt c 0]) (fun h _j d=>bif Nat.beq h 0 then (za (zc .add (zf b 0) (I6 1)) fun k=>some (.normal,[k],[zt d 0])) else(none)) (fun _j _d=>none)) (some (.exit 0,[],[zt c 0]))
def zBR:Nat→Option LA:=fun i=>match i with|0=>some ⟨[.slot 5],[],[],[],[],[],[.slot 4],[],[]⟩|_=>none
def zx4:Nat→List PA→Nat→Nat→Option LA:=fun h _ n i=>match h,n,i with|28,0,999=>some ⟨[],[],[],[],[],[],[],[],[]⟩  |_,_,_=>none
def zrQ(a b:DV)(c:List DV)(_k:List OC):Option PX:=za (zY a) fun d=>za (zc .lss (zf c 0) d) fun e=>ifB e (za (yW 1 a (zf c 0)) fun f=>za (yW 1 b (zf c 0)) fun g=>za (zc .neq (atD f 0) (atD g 0)) fun h=>ifB h (some (.ret,[.bool false],[])) (za (zc .add (zf c 0) (I6 1)) fun j=>some (.normal,[j],[]))) (some (.exit 0,[],[]))
def P13(_O:Orc)(a b c d f h:DV):Option DA:=za (zY a) fun g=>za (zY d) fun j=>za (zc .neq g j) fun k=>ifB k (some (S1 (.bool false))) (za (zc .neq b f) fun l=>ifB l (some (S1 (.bool false))) (za (zc .neq c h) fun m=>ifB m (some (S1 (.bool false))) (z6 (zA (zrQ a d) [I6 0] []) (fun n _e _o=>bif Nat.beq n 0 then (some (S1 (.bool true))) else(none)) (fun e _o=>some (S1 (zf e 0))))))
theorem p13(O:Orc)(a b c d f h:DV):wM prog O yA (inl prog O yA zx4 redI 6) zBR 13 [SA [a,b,c],SA [d,f,h]]=P13 O a b c d f h:=by kernel_rfl
def zFJ:Nat→Option LA:=fun i=>match i with|0=>some ⟨[.slot 6,.cell 3 1,.cell 3 2],[(.cell 3 0,1)],[(3,3)],[],[.cell 3 1,.cell 3 2],[(.cell 3 0,1)],[.cell 3 1,.cell 3 2],[(.cell 3 0,1)],[]⟩|_=>none
def zFc:Nat→List PA→Nat→Nat→Option LA:=fun h _ n i=>match h,n,i with|28,0,999=>some ⟨[],[],[],[],[],[],[],[],[]⟩  |_,_,_=>none
def zDw(a b c d f h:DV)(e:List DV)(g:List OC):Option PX:=za (zY a) fun j=>za (zc .lss (zf e 0) j) fun k=>ifB k (za (zc .rem (zf e 0) (I6 3)) fun l=>za (jV 5 l) fun m=>za (xx .u64 (atD [b,c,d,f,h] m)) fun n=>za (yW 5 a (zf e 0)) fun o=>za (zY (atD o 4)) fun p=>za (xx .u64 p) fun q=>za (z7 true (U64 1) q) fun r=>za (zc .sub r (U64 1)) fun s=>za (zc .and n s) fun t=>gd (fits 8 (xR (zt g 0)+1)) (za (zc .add (zf e 0) (I6 1)) fun v=>some (.normal,[v,zf e 1,zf e 2],[some (zG (zt g 0)++[[t]])]))) (some (.exit 0,[zf e 1,zf e 2],[zt g 0]))
def P14(_O:Orc)(_a _b c d f h j m r:DV):Option DA:=za (xx .u64 (atD [f,h,j,m,r] 3)) fun e=>za (zY d) fun g=>za (xx .u64 g) fun k=>za (z7 true (U64 1) k) fun l=>za (zc .sub l (U64 1)) fun n=>za (zc .and e n) fun o=>za (xx .u64 (atD [f,h,j,m,r] 4)) fun p=>za (zY c) fun q=>za (xx .u64 q) fun s=>za (z7 true (U64 1) s) fun t=>za (zc .sub t (U64 1)) fun v=>za (zc .and p v) fun w=>z6 (zA (zDw c f h j m r) [I6 0,o,w] [none]) (fun x a b=>bif Nat.beq x 0 then (some (SA [mkL 1 (zt b 0),zf a 0,zf a 1])) else(none)) (fun _a _b=>none)
theorem p14(O:Orc)(a b c d f h j m r:DV):wM prog O yA (inl prog O yA zFc redI 6) zFJ 14 [SA [a,b,c,d],SA [f,h,j,m,r]]=P14 O a b c d f h j m r:=by kernel_rfl
def zFI:Nat→Option LA:=fun i=>match i with|0=>some ⟨[.slot 25,.cell 3 1,.cell 3 2],[(.cell 3 0,1)],[(3,3)],[],[.cell 3 1,.cell 3 2],[(.cell 3 0,1)],[.cell 3 1,.cell 3 2],[(.cell 3 0,1)],[]⟩|_=>none
def zFb:Nat→List PA→Nat→Nat→Option LA:=fun h _ n i=>match h,n,i with|28,0,999=>some ⟨[],[],[],[],[],[],[],[],[]⟩  |_,_,_=>none
def zEu(O:Orc)(j a b c d f h:DV)(e:List DV)(g:List OC):Option PX:=za (zc .lss (zf e 0) j) fun k=>ifB k (b1 (O 38 [SA [a,b,c],S1 (zf e 0)]) fun l=>b1 (O 38 [SA [d,f,h],S1 (zf e 0)]) fun m=>za (zc .or l m) fun n=>gd (fits 8 (xR (zt g 0)+1)) (za (zc .add (zf e 0) (I6 1)) fun o=>some (.normal,[o,zf e 1,zf e 2],[some (zG (zt g 0)++[[n]])]))) (some (.exit 0,[zf e 1,zf e 2],[zt g 0]))
def P15(O:Orc)(a b c d f h:DV):Option DA:=za (zc .or b f) fun j=>za (zc .or c h) fun k=>za (zY a) fun l=>za (zY d) fun m=>za (wp true l [m]) fun n=>z6 (zA (zEu O n a b c d f h) [I6 0,j,k] [none]) (fun o e g=>bif Nat.beq o 0 then (some (SA [mkL 1 (zt g 0),zf e 0,zf e 1])) else(none)) (fun _e _g=>none)
theorem p15(O:Orc)(a b c d f h:DV):wM prog O yA (inl prog O yA zFb redI 6) zFI 15 [SA [a,b,c],SA [d,f,h]]=P15 O a b c d f h:=by kernel_rfl
def zFH:Nat→Option LA:=fun i=>match i with|0=>some ⟨[.slot 19],[],[],[],[],[],[.slot 4],[],[]⟩|_=>none
def zFa:Nat→List PA→Nat→Nat→Option LA:=fun h _ n i=>match h,n,i with|28,0,999=>some ⟨[],[],[],[],[],[],[],[],[]⟩  |_,_,_=>none
def zEc(O:Orc)(k h a b c d:DV)(e:List DV)(_t:List OC):Option PX:=za (zc .lss (zf e 0) k) fun l=>ifB l (za (yW 3 h (zf e 0)) fun f=>b1 (O 10 [SA [a,b,c,d],SA [atD f 0,atD f 1,atD f 2]]) fun j=>za (zc .neq j (I6 0)) fun m=>ifB m (some (.ret,[j],[])) (za (zc .gtr (zf e 0) (I6 0)) fun n=>ifB n (za (zc .sub (zf e 0) (I6 1)) fun o=>za (yW 3 h o) fun g=>b1 (O 18 [SA [atD g 0,atD g 1,atD g 2],SA [atD f 0,atD f 1,atD f 2]]) fun p=>za (uE p) fun q=>ifB q (some (.ret,[I6 6],[])) (za (zc .add (zf e 0) (I6 1)) fun r=>some (.normal,[r],[]))) (za (zc .add (zf e 0) (I6 1)) fun s=>some (.normal,[s],[])))) (some (.exit 0,[],[]))
def P16(O:Orc)(a b c d e:DV):Option DA:=b1 (O 27 [SA [a,b,c,d]]) fun f=>za (zc .neq f (I6 0)) fun h=>ifB h (some (S1 f)) (za (zY e) fun j=>za (zc .gtr j (I6 100)) fun k=>ifB k (some (S1 (I6 4))) (za (zY e) fun l=>z6 (zA (zEc O l e a b c d) [I6 0] []) (fun m _g _n=>bif Nat.beq m 0 then (some (S1 (I6 0))) else(none)) (fun g _n=>some (S1 (zf g 0)))))
theorem p16(O:Orc)(a b c d a1:DV):wM prog O yA (inl prog O yA zFa redI 6) zFH 16 [SA [a,b,c,d],S1 a1]=P16 O a b c d a1:=by kernel_rfl
def zFG:Nat→Option LA:=fun i=>match i with|0=>some ⟨[.slot 16,.slot 3],[],[],[],[.slot 3],[],[],[],[]⟩|_=>none
def zE9:Nat→List PA→Nat→Nat→Option LA:=fun h _ n i=>match h,n,i with|28,0,999=>some ⟨[],[],[],[],[],[],[],[],[]⟩  |_,_,_=>none
def zEt(O:Orc)(c a:DV)(b:List DV)(_j:List OC):Option PX:=za (zc .lss (zf b 0) c) fun d=>ifB d (za (yW 1 a (zf b 0)) fun e=>b1 (O 39 [S1 (atD e 0)]) fun f=>za (zc .add (zf b 1) f) fun g=>za (zc .add (zf b 0) (I6 1)) fun h=>some (.normal,[h,g],[])) (some (.exit 0,[zf b 1],[]))
def P17(O:Orc)(a b c:DV):Option DA:=b1 (O 39 [S1 b]) fun e=>b1 (O 39 [S1 c]) fun f=>za (zc .add e f) fun g=>za (zY a) fun h=>z6 (zA (zEt O h a) [I6 0,g] []) (fun j d _k=>bif Nat.beq j 0 then (some (S1 (zf d 0))) else(none)) (fun _d _k=>none)
theorem p17(O:Orc)(a b c:DV):wM prog O yA (inl prog O yA zE9 redI 6) zFG 17 [SA [a,b,c]]=P17 O a b c:=by kernel_rfl
def zBQ:Nat→Option LA:=fun i=>match i with|0=>some ⟨[.slot 10],[],[],[],[],[],[.slot 4],[],[]⟩|_=>none
def zx3:Nat→List PA→Nat→Nat→Option LA:=fun h _ n i=>match h,n,i with|28,0,999=>some ⟨[],[],[],[],[],[],[],[],[]⟩  |_,_,_=>none
def zpL(O:Orc)(f a b c d:DV)(e:List DV)(_n:List OC):Option PX:=za (zc .lss (zf e 0) f) fun g=>ifB g (za (yW 1 a (zf e 0)) fun h=>b1 (O 38 [SA [b,c,d],S1 (zf e 0)]) fun j=>za (zc .andNot (atD h 0) j) fun k=>za (zc .neq k (U64 0)) fun l=>ifB l (some (.ret,[.bool false],[])) (za (zc .add (zf e 0) (I6 1)) fun m=>some (.normal,[m],[]))) (some (.exit 0,[],[]))
def P18(O:Orc)(a b c d f h:DV):Option DA:=za (zY a) fun g=>z6 (zA (zpL O g a d f h) [I6 0] []) (fun j _e _k=>bif Nat.beq j 0 then (za (zc .andNot b f) fun l=>za (zc .eql l (U64 0)) fun m=>ifB m (za (zc .andNot c h) fun n=>za (zc .eql n (U64 0)) fun o=>some (S1 o)) (some (S1 (.bool false)))) else(none)) (fun e _k=>some (S1 (zf e 0)))
theorem p18(O:Orc)(a b c d f h:DV):wM prog O yA (inl prog O yA zx3 redI 6) zBQ 18 [SA [a,b,c],SA [d,f,h]]=P18 O a b c d f h:=by kernel_rfl
def zC3:Nat→Option LA:=fun i=>match i with|0=>some ⟨[.slot 7],[],[],[],[],[],[.slot 6],[],[]⟩|1=>some ⟨[.slot 8],[],[],[],[],[],[.slot 6],[],[]⟩|2=>some ⟨[.slot 60],[],[],[],[],[],[.slot 6],[],[]⟩|_=>none
def zE8:Nat→List PA→Nat→Nat→Option LA:=fun h _ n i=>match h,n,i with|28,0,999=>some ⟨[],[],[],[],[],[],[],[],[]⟩  |_,_,_=>none
def zDv(O:Orc)(c:DV)(d e:List DS)(a:List DV)(_k:List OC):Option PX:=za (zc .lss (zf a 0) c) fun f=>ifB f (za (yW 2 (dsO (zT d 0)) (zf a 0)) fun b=>b1 (O 41 [S1 (dsO (zT e 0)),SA [atD b 0,atD b 1]]) fun g=>za (uE g) fun h=>ifB h (some (.ret,[.bool true],[])) (za (zc .add (zf a 0) (I6 1)) fun j=>some (.normal,[j],[]))) (some (.exit 4,[],[]))
def zEa(O:Orc)(a:DV)(g:List DV)(b c d f h j m r s:DV)(e:List DV)(_y:List OC):Option PX:=za (yW 5 a (zf g 0)) fun o=>za (zc .leq (zf e 0) (atD o 3)) fun p=>ifB p (bT [none,none] (O 40 [SA [b,c,a,d],SA [f,h,j],SA [zf g 0,zf e 0]]) fun q=>bT [none,none] (O 40 [SA [b,c,a,d],SA [m,r,s],SA [zf g 0,zf e 0]]) fun l=>za (zY (dsO (zT l 0))) fun t=>z6 (zA (zDv O t l q) [I6 0] []) (fun k _n _v=>bif Nat.beq k 4 then (za (zc .add (zf e 0) (I6 1)) fun w=>some (.normal,[w],[])) else(bif Nat.beq k 3 then (za (zc .add (zf e 0) (I6 1)) fun x=>some (.normal,[x],[])) else(some (.exit k,[],[])))) (fun n _v=>some (.ret,[zf n 0],[]))) (some (.exit 2,[],[]))
def zEb(O:Orc)(a b c d f h j m r s:DV)(e:List DV)(_v:List OC):Option PX:=za (zY a) fun l=>za (zc .lss (zf e 0) l) fun n=>ifB n (za (yW 5 a (zf e 0)) fun o=>z6 (zA (zEa O a e b c d f h j m r s) [atD o 2] []) (fun g _k _p=>bif Nat.beq g 2 then (za (zc .add (zf e 0) (I6 1)) fun q=>some (.normal,[q],[])) else(bif Nat.beq g 1 then (za (zc .add (zf e 0) (I6 1)) fun t=>some (.normal,[t],[])) else(some (.exit g,[],[])))) (fun k _p=>some (.ret,[zf k 0],[]))) (some (.exit 0,[],[]))
def P19(O:Orc)(a b c d f h j m r s:DV):Option DA:=z6 (zA (zEb O c a b d f h j m r s) [I6 0] []) (fun g _e _k=>bif Nat.beq g 0 then (some (S1 (.bool false))) else(none)) (fun e _k=>some (S1 (zf e 0)))
theorem p19(O:Orc)(a b c d f h j m r s:DV):wM prog O yA (inl prog O yA zE8 redI 6) zC3 19 [SA [a,b,c,d],SA [f,h,j],SA [m,r,s]]=P19 O a b c d f h j m r s:=by kernel_rfl
def zBP:Nat→Option LA:=fun i=>match i with|0=>some ⟨[.slot 6,.cell 4 0,.cell 4 1,.cell 4 2,.cell 4 3,.cell 4 4],[(.cell 4 5,1)],[(4,6)],[],[.cell 4 0,.cell 4 1,.cell 4 2,.cell 4 3,.cell 4 4],[(.cell 4 5,1)],[.cell 4 0,.cell 4 1,.cell 4 2,.cell 4 3,.cell 4 4],[(.cell 4 5,1)],[]⟩|_=>none
def zx2:Nat→List PA→Nat→Nat→Option LA:=fun h _ n i=>match h,n,i with|28,0,999=>some ⟨[],[],[],[],[],[],[],[],[]⟩  |_,_,_=>none
def zhG(a b c d f h:DV)(e:List DV)(g:List OC):Option PX:=za (zc .rem a (U8 25)) fun j=>za (xx .i64 j) fun k=>za (zc .add (I6 1) k) fun l=>za (zc .lss (zf e 0) l) fun m=>ifB m (za (zc .rem (zf e 0) (I6 5)) fun n=>za (jV 5 n) fun o=>za (xx .i64 (atD [b,c,d,f,h] o)) fun p=>gd (fits 8 (xR (zt g 0)+1)) (za (zc .add (zf e 0) (I6 1)) fun q=>some (.normal,[q,zf e 1,zf e 2,zf e 3,zf e 4,zf e 5],[some (zG (zt g 0)++[[p]])]))) (some (.exit 0,[zf e 1,zf e 2,zf e 3,zf e 4,zf e 5],[zt g 0]))
def P25(O:Orc)(a b c d f h j m r l:DV):Option DA:=za (zc .rem l (I6 10)) fun n=>za (zc .add (I6 48) n) fun o=>za (xx .u8 o) fun p=>za (znE (.lst 1 [[p]])) fun q=>za (znx .add (.str ⟨#[82]⟩) q) fun s=>za (zc .rem a (U8 3)) fun t=>za (xe (some [[.str ⟨#[79,112,101,110]⟩],[.str ⟨#[70,108,117,116,101]⟩],[.str ⟨#[82,101,101,100]⟩]]) t) fun v=>za (jW (some [[.str ⟨#[79,112,101,110]⟩],[.str ⟨#[70,108,117,116,101]⟩],[.str ⟨#[82,101,101,100]⟩]]) v) fun w=>bA 2 (O 47 [S1 b]) fun g=>za (xx .i64 c) fun x=>z6 (zA (zhG d f h j m r) [I6 0,s,atD w 0,atD g 0,atD g 1,x] [none]) (fun y e k=>bif Nat.beq y 0 then (some (SA [zf e 0,zf e 1,zf e 2,zf e 3,zf e 4,mkL 1 (zt k 0)])) else(none)) (fun _e _k=>none)
theorem p25(O:Orc)(a b c d f h j m r a1:DV):wM prog O yA (inl prog O yA zx2 redI 6) zBP 25 [SA [a,b,c,d,f,h,j,m,r],S1 a1]=P25 O a b c d f h j m r a1:=by kernel_rfl
def zx1:Nat→List PA→Nat→Nat→Option LA:=fun h _ n i=>match h,n,i with|28,0,999=>some ⟨[],[],[],[],[],[],[],[],[]⟩  |_,_,_=>none
def P26(O:Orc)(m a b c d f h C:DV):Option DA:=za (xx .i64 c) fun E=>za (zY m) fun F=>za (zc .rem E F) fun g=>za (zc .add (I6 48) C) fun G=>za (xx .u8 G) fun H=>za (znE (.lst 1 [[H]])) fun J=>za (znx .add (.str ⟨#[83]⟩) J) fun l=>bA 2 (O 48 [S1 d]) fun e=>za (yW 6 m g) fun q=>bT [none,none] (O 49 [SA [atD e 0,atD e 1],SA [atD q 2,atD q 3]]) fun k=>za (xx .i64 h) fun K=>za (zc .sub b a) fun L=>za (zc .add L (I6 1)) fun M=>za (zc .rem K M) fun N=>za (zc .add a N) fun j=>za (zc .rem f (U8 6)) fun n=>za (zc .eql n (U8 2)) fun P=>ifB P (za (zc .add (dsO (zT k 0)) (I6 7)) fun Q=>some (SA [l,atD e 0,atD e 1,.lst 3 [[a,b,.lst 2 [[g,dsO (zT k 0)],[g,Q]]]]])) (za (zc .eql n (U8 3)) fun R=>ifB R (za (zc .sub (dsO (zT k 0)) (I6 12)) fun r=>za (zc .rem f (U8 6)) fun S=>za (zc .eql S (U8 3)) fun T=>ifB T (za (zc .add g (I6 1)) fun U=>za (zY m) fun V=>za (zc .rem U V) fun o=>za (yW 6 m o) fun s=>bT [none,none] (O 49 [SA [atD e 0,atD e 1],SA [atD s 2,atD s 3]]) fun t=>za (zc .gtr j a) fun W=>ifB W (za (zc .sub j (I6 1)) fun v=>gd (fits 40 1) (gd (fits 40 (xR (some (zG none++[[a,v,.lst 2 [[g,dsO (zT k 0)]]]]))+1)) (some (SA [l,atD e 0,atD e 1,.lst 3 (zG (some (zG none++[[a,v,.lst 2 [[g,dsO (zT k 0)]]]]))++[[j,b,.lst 2 [[o,dsO (zT t 0)]]]])])))) (gd (fits 40 1) (some (SA [l,atD e 0,atD e 1,.lst 3 (zG none++[[j,b,.lst 2 [[o,dsO (zT t 0)]]]])])))) (za (zc .gtr j a) fun X=>ifB X (za (zc .sub j (I6 1)) fun w=>gd (fits 40 1) (gd (fits 40 (xR (some (zG none++[[a,w,.lst 2 [[g,dsO (zT k 0)]]]]))+1)) (some (SA [l,atD e 0,atD e 1,.lst 3 (zG (some (zG none++[[a,w,.lst 2 [[g,dsO (zT k 0)]]]]))++[[j,b,.lst 2 [[g,r]]]])])))) (gd (fits 40 1) (some (SA [l,atD e 0,atD e 1,.lst 3 (zG none++[[j,b,.lst 2 [[g,r]]]])]))))) (za (zc .eql n (U8 4)) fun Y=>ifB Y (za (zc .sub (dsO (zT k 0)) (I6 12)) fun x=>za (zc .rem f (U8 6)) fun Z=>za (zc .eql Z (U8 3)) fun aa=>ifB aa (za (zc .add g (I6 1)) fun ab=>za (zY m) fun ac=>za (zc .rem ab ac) fun p=>za (yW 6 m p) fun y=>bT [none,none] (O 49 [SA [atD e 0,atD e 1],SA [atD y 2,atD y 3]]) fun z=>za (zc .gtr j a) fun ad=>ifB ad (za (zc .sub j (I6 1)) fun A=>gd (fits 40 1) (gd (fits 40 (xR (some (zG none++[[a,A,.lst 2 [[g,dsO (zT k 0)]]]]))+1)) (some (SA [l,atD e 0,atD e 1,.lst 3 (zG (some (zG none++[[a,A,.lst 2 [[g,dsO (zT k 0)]]]]))++[[j,b,.lst 2 [[p,dsO (zT z 0)]]]])])))) (gd (fits 40 1) (some (SA [l,atD e 0,atD e 1,.lst 3 (zG none++[[j,b,.lst 2 [[p,dsO (zT z 0)]]]])])))) (za (zc .gtr j a) fun ae=>ifB ae (za (zc .sub j (I6 1)) fun B=>gd (fits 40 1) (gd (fits 40 (xR (some (zG none++[[a,B,.lst 2 [[g,dsO (zT k 0)]]]]))+1)) (some (SA [l,atD e 0,atD e 1,.lst 3 (zG (some (zG none++[[a,B,.lst 2 [[g,dsO (zT k 0)]]]]))++[[j,b,.lst 2 [[g,x]]]])])))) (gd (fits 40 1) (some (SA [l,atD e 0,atD e 1,.lst 3 (zG none++[[j,b,.lst 2 [[g,x]]]])]))))) (za (zc .eql n (U8 5)) fun af=>ifB af (some (SA [l,atD e 0,atD e 1,.lst 3 [[j,b,.lst 2 [[g,dsO (zT k 0)]]]]])) (some (SA [l,atD e 0,atD e 1,.lst 3 [[a,b,.lst 2 [[g,dsO (zT k 0)]]]]])))))
theorem p26(O:Orc)(a0 a b c d f h a3:DV):wM prog O yA (inl prog O yA zx1 redI 6) an0 26 [S1 a0,SA [a,b],SA [c,d,f,h],S1 a3]=P26 O a0 a b c d f h a3:=by kernel_rfl
def zBO:Nat→Option LA:=fun i=>match i with|0=>some ⟨[.slot 27],[],[],[(1,1048576)],[],[],[.slot 2],[],[]⟩|1=>some ⟨[.slot 58],[(.slot 8,2)],[],[(2,1048576)],[],[(.slot 8,2)],[.slot 2],[],[]⟩|_=>none
def zx0:Nat→List PA→Nat→Nat→Option LA:=fun h _ n i=>match h,n,i with|28,0,999=>some ⟨[],[],[],[],[],[],[],[],[]⟩  |_,_,_=>none
def zhF(O:Orc)(l a b c d:DV)(g:List DV)(f:List OC):Option PX:=za (zc .lss (zf g 0) l) fun m=>ifB m (za (yW 5 a (zf g 0)) fun e=>b1 (O 50 [S1 (atD e 0)]) fun n=>za (uE n) fun o=>ifB o (some (.ret,[I6 8],[some (zG (zt f 1))])) (za (zhO (.inl 2) (.one (atD e 0)) (.one (atD e 0))) fun _x=>za (zfQ (.inl 2) 1048576 (.one (atD e 0)) (zG (zt f 1))) fun p=>ifB (dsO (lkD (.one (.bool false)) p)) (za (zc .neq (I6 9) (I6 0)) fun q=>ifB q (some (.ret,[I6 9],[some (zG (zt f 1))])) (b1 (O 53 [SA [b,c,a,d],SA [atD e 0,atD e 1,atD e 2,atD e 3,atD e 4]]) fun j=>za (zc .neq j (I6 0)) fun r=>ifB r (some (.ret,[j],[some (zG (zt f 1))])) (gd (fits 16 (xR (zt f 0)+1)) (za (zc .add (zf g 0) (I6 1)) fun s=>some (.normal,[s],[some (zG (zt f 0)++[[atD e 2,atD e 3]]),some (zG (zt f 1))]))))) (za (zhO (.inl 2) (.one (atD e 0)) (.one (atD e 0))) fun _y=>za (zpR (.inl 2) 1048576 (.one (atD e 0)) [atD e 0,.bool true] (zG (zt f 1))) fun h=>za (zc .neq (I6 0) (I6 0)) fun t=>ifB t (some (.ret,[I6 0],[some h])) (b1 (O 53 [SA [b,c,a,d],SA [atD e 0,atD e 1,atD e 2,atD e 3,atD e 4]]) fun k=>za (zc .neq k (I6 0)) fun v=>ifB v (some (.ret,[k],[some h])) (gd (fits 16 (xR (zt f 0)+1)) (za (zc .add (zf g 0) (I6 1)) fun w=>some (.normal,[w],[some (zG (zt f 0)++[[atD e 2,atD e 3]]),some h]))))))) (some (.exit 4,[],[zt f 0,some (zG (zt f 1))]))
def zpK(O:Orc)(g a:DV)(d:List DV)(c:List OC):Option PX:=za (zc .lss (zf d 0) g) fun h=>ifB h (za (yW 6 a (zf d 0)) fun b=>b1 (O 51 [SA [atD b 0,atD b 1,atD b 2,atD b 3,atD b 4,atD b 5]]) fun e=>za (zc .neq e (I6 0)) fun j=>ifB j (some (.ret,[e],[some (zG (zt c 0))])) (za (zhO (.inl 2) (.one (atD b 0)) (.one (atD b 0))) fun _p=>za (zfQ (.inl 2) 1048576 (.one (atD b 0)) (zG (zt c 0))) fun k=>ifB (dsO (lkD (.one (.bool false)) k)) (za (zc .neq (I6 9) (I6 0)) fun l=>ifB l (some (.ret,[I6 9],[some (zG (zt c 0))])) (za (zc .add (zf d 0) (I6 1)) fun m=>some (.normal,[m],[some (zG (zt c 0))]))) (za (zhO (.inl 2) (.one (atD b 0)) (.one (atD b 0))) fun _q=>za (zpR (.inl 2) 1048576 (.one (atD b 0)) [atD b 0,.bool true] (zG (zt c 0))) fun f=>za (zc .neq (I6 0) (I6 0)) fun n=>ifB n (some (.ret,[I6 0],[some f])) (za (zc .add (zf d 0) (I6 1)) fun o=>some (.normal,[o],[some f]))))) (some (.exit 1,[],[some (zG (zt c 0))]))
def P27(O:Orc)(a b c d:DV):Option DA:=b1 (O 50 [S1 a]) fun h=>za (uE h) fun j=>ifB j (some (S1 (I6 8))) (za (zY b) fun k=>za (zc .gtr k (I6 60)) fun l=>ifB l (some (S1 (I6 4))) (za (zY b) fun m=>z6 (zA (zpK O m b) [I6 0] [some []]) (fun n _e _o=>bif Nat.beq n 1 then (za (zY c) fun p=>za (zc .eql p (I6 0)) fun q=>ifB q (some (S1 (I6 13))) (za (zY c) fun r=>za (zc .gtr r (I6 8)) fun s=>ifB s (some (S1 (I6 4))) (za (zY c) fun t=>z6 (zA (zhF O t c a b d) [I6 0] [none,some []]) (fun v _f g=>bif Nat.beq v 4 then (b1s (O 54 [S1 (mkL 2 (zt g 0)),S1 d]) fun w=>some (S1 w)) else(none)) (fun f _g=>some (S1 (zf f 0)))))) else(none)) (fun e _o=>some (S1 (zf e 0)))))
theorem p27(O:Orc)(a b c d:DV):wM prog O yA (inl prog O yA zx0 redI 6) zBO 27 [SA [a,b,c,d]]=P27 O a b c d:=by kernel_rfl
def zxZ:Nat→List PA→Nat→Nat→Option LA:=fun h _ n i=>match h,n,i with|28,0,999=>some ⟨[],[],[],[],[],[],[],[],[]⟩  |_,_,_=>none
def P30(O:Orc)(a b c d:DV):Option DA:=b1 (O 31 [.s (.one d),SA [a,b,c]]) fun e=>some (S1 e)
theorem p30(O:Orc)(a b c d:DV):wM prog O yA (inl prog O yA zxZ redI 6) an0 30 [SA [a,b,c],S1 (.fp [d] 0)]=P30 O a b c d:=by kernel_rfl
def zxY:Nat→List PA→Nat→Nat→Option LA:=fun h _ n i=>match h,n,i with|28,0,999=>some ⟨[],[],[],[],[],[],[],[],[]⟩  |_,_,_=>none
def P31(O:Orc)(d a b c:DV):Option DA:=b1 (O 58 [S1 d,SA [a,b,c]]) fun e=>za (zc .geq e (I6 0)) fun f=>some (S1 f)
theorem p31(O:Orc)(a0 a b c:DV):wM prog O yA (inl prog O yA zxY redI 6) an0 31 [S1 a0,SA [a,b,c]]=P31 O a0 a b c:=by kernel_rfl
def zxU:Nat→List PA→Nat→Nat→Option LA:=fun h _ n i=>match h,n,i with|28,0,999=>some ⟨[],[],[],[],[],[],[],[],[]⟩  |_,_,_=>none
def P38(_O:Orc)(a _b _c b:DV):Option DA:=za (zY a) fun c=>za (zc .lss b c) fun d=>ifB d (za (yW 1 a b) fun e=>some (S1 (atD e 0))) (some (S1 (U64 0)))
theorem p38(O:Orc)(a b c a1:DV):wM prog O yA (inl prog O yA zxU redI 6) an0 38 [SA [a,b,c],S1 a1]=P38 O a b c a1:=by kernel_rfl
def zE7:Nat→List PA→Nat→Nat→Option LA:=fun h _ n i=>match h,n,i with|28,0,999=>some ⟨[],[],[],[],[],[],[],[],[]⟩  |_,_,_=>none
def P39(_O:Orc)(a:DV):Option DA:=za (z7 false a (U64 1)) fun g=>za (zc .and g (U64 6148914691236517205)) fun h=>za (zc .and a (U64 6148914691236517205)) fun j=>za (zc .add h j) fun b=>za (z7 false b (U64 2)) fun k=>za (zc .and k (U64 3689348814741910323)) fun l=>za (zc .and b (U64 3689348814741910323)) fun m=>za (zc .add l m) fun c=>za (z7 false c (U64 4)) fun n=>za (zc .add n c) fun o=>za (zc .and o (U64 1085102592571150095)) fun d=>za (z7 false d (U64 8)) fun p=>za (zc .add d p) fun e=>za (z7 false e (U64 16)) fun q=>za (zc .add e q) fun f=>za (z7 false f (U64 32)) fun r=>za (zc .add f r) fun s=>za (xx .i64 s) fun t=>za (zc .and t (I6 127)) fun v=>some (S1 v)
theorem p39(O:Orc)(a0:DV):wM prog O yA (inl prog O yA zE7 redI 6) an0 39 [S1 a0]=P39 O a0:=by kernel_rfl
def zE6:Nat→List PA→Nat→Nat→Option LA:=fun h _ n i=>match h,n,i with|28,0,999=>some ⟨[],[],[],[],[],[],[],[],[]⟩  |_,_,_=>none
def P40(O:Orc)(a b c d f h j m r:DV):Option DA:=b1 (O 61 [SA [a,b,c,d],SA [f,h,j],SA [m,r]]) fun e=>za (zc .neq e (I6 0)) fun g=>ifB g (some (.tup [.one .nils,.one e])) (b1 (O 62 [SA [a,b,c,d],SA [f,h,j],S1 (.lst 2 [[m,r]])]) fun k=>some (.tup [.one k,.one (I6 0)]))
theorem p40(O:Orc)(a b c d f h j m r:DV):wM prog O yA (inl prog O yA zE6 redI 6) an0 40 [SA [a,b,c,d],SA [f,h,j],SA [m,r]]=P40 O a b c d f h j m r:=by kernel_rfl
def zFF:Nat→Option LA:=fun i=>match i with|0=>some ⟨[.slot 5],[],[],[],[],[],[.slot 4],[],[]⟩|_=>none
def zE5:Nat→List PA→Nat→Nat→Option LA:=fun h _ n i=>match h,n,i with|28,0,999=>some ⟨[],[],[],[],[],[],[],[],[]⟩  |_,_,_=>none
def zD9(d a b:DV)(c:List DV)(_k:List OC):Option PX:=za (zY d) fun f=>za (zc .lss (zf c 0) f) fun g=>ifB g (za (yW 2 d (zf c 0)) fun e=>za (zmq [1,1] [atD e 0,atD e 1] [a,b]) fun h=>ifB (.bool h) (some (.ret,[.bool true],[])) (za (zc .add (zf c 0) (I6 1)) fun j=>some (.normal,[j],[]))) (some (.exit 0,[],[]))
def P41(_O:Orc)(d a b:DV):Option DA:=z6 (zA (zD9 d a b) [I6 0] []) (fun e _c _f=>bif Nat.beq e 0 then (some (S1 (.bool false))) else(none)) (fun c _f=>some (S1 (zf c 0)))
theorem p41(O:Orc)(a0 a b:DV):wM prog O yA (inl prog O yA zE5 redI 6) zFF 41 [S1 a0,SA [a,b]]=P41 O a0 a b:=by kernel_rfl
def zxT:Nat→List PA→Nat→Nat→Option LA:=fun h _ n i=>match h,n,i with|28,0,999=>some ⟨[],[],[],[],[],[],[],[],[]⟩  |_,_,_=>none
def P47(_O:Orc)(b:DV):Option DA:=za (zc .rem b (U8 16)) fun c=>za (xe (some [[I6 8,I6 1],[I6 4,I6 1],[I6 16,I6 1],[I6 2,I6 1],[I6 8,I6 3],[I6 8,I6 5],[I6 4,I6 3],[I6 1,I6 1],[I6 32,I6 1],[I6 16,I6 3],[I6 16,I6 5],[I6 32,I6 3],[I6 8,I6 7],[I6 2,I6 3],[I6 1,I6 2],[I6 64,I6 1]]) c) fun d=>za (jW (some [[I6 8,I6 1],[I6 4,I6 1],[I6 16,I6 1],[I6 2,I6 1],[I6 8,I6 3],[I6 8,I6 5],[I6 4,I6 3],[I6 1,I6 1],[I6 32,I6 1],[I6 16,I6 3],[I6 16,I6 5],[I6 32,I6 3],[I6 8,I6 7],[I6 2,I6 3],[I6 1,I6 2],[I6 64,I6 1]]) d) fun a=>some (SA [atD a 0,atD a 1])
theorem p47(O:Orc)(a0:DV):wM prog O yA (inl prog O yA zxT redI 6) an0 47 [S1 a0]=P47 O a0:=by kernel_rfl
def zxS:Nat→List PA→Nat→Nat→Option LA:=fun h _ n i=>match h,n,i with|28,0,999=>some ⟨[],[],[],[],[],[],[],[],[]⟩  |_,_,_=>none
def P48(_O:Orc)(b:DV):Option DA:=za (zc .rem b (U8 6)) fun c=>za (xe (some [[I6 8,I6 1],[I6 4,I6 1],[I6 16,I6 1],[I6 8,I6 3],[I6 2,I6 1],[I6 8,I6 5]]) c) fun d=>za (jW (some [[I6 8,I6 1],[I6 4,I6 1],[I6 16,I6 1],[I6 8,I6 3],[I6 2,I6 1],[I6 8,I6 5]]) d) fun a=>some (SA [atD a 0,atD a 1])
theorem p48(O:Orc)(a0:DV):wM prog O yA (inl prog O yA zxS redI 6) an0 48 [S1 a0]=P48 O a0:=by kernel_rfl
def zxR:Nat→List PA→Nat→Nat→Option LA:=fun h _ n i=>match h,n,i with|28,0,999=>some ⟨[],[],[],[],[],[],[],[],[]⟩  |_,_,_=>none
def P49(O:Orc)(a b c d:DV):Option DA:=b1 (O 69 [SA [a,b],SA [c,d]]) fun e=>za (zc .neq e (I6 0)) fun f=>ifB f (some (.tup [.one (I6 0),.one e])) (b1 (O 70 [SA [a,b],SA [c,d]]) fun g=>some (.tup [.one g,.one (I6 0)]))
theorem p49(O:Orc)(a b c d:DV):wM prog O yA (inl prog O yA zxR redI 6) an0 49 [SA [a,b],SA [c,d]]=P49 O a b c d:=by kernel_rfl
def zBM:Nat→Option LA:=fun i=>match i with|0=>some ⟨[.slot 3],[],[],[],[],[],[.slot 2],[],[]⟩|_=>none
def zxQ:Nat→List PA→Nat→Nat→Option LA:=fun h _ n i=>match h,n,i with|28,0,999=>some ⟨[],[],[],[],[],[],[],[],[]⟩  |_,_,_=>none
def zpJ(O:Orc)(c:DV)(a:List DV)(_q:List OC):Option PX:=za (zlx c) fun d=>za (zc .lss (zf a 0) d) fun e=>ifB e (za (zbJ c (zf a 0)) fun b=>b1 (O 71 [S1 b]) fun f=>za (uE f) fun g=>ifB g (za (zc .lss b (U8 48)) fun h=>ifB h (za (zc .neq b (U8 95)) fun j=>ifB j (some (.ret,[.bool false],[])) (za (zc .add (zf a 0) (I6 1)) fun k=>some (.normal,[k],[]))) (za (zc .gtr b (U8 57)) fun l=>ifB l (za (zc .neq b (U8 95)) fun m=>ifB m (some (.ret,[.bool false],[])) (za (zc .add (zf a 0) (I6 1)) fun n=>some (.normal,[n],[]))) (za (zc .add (zf a 0) (I6 1)) fun o=>some (.normal,[o],[])))) (za (zc .add (zf a 0) (I6 1)) fun p=>some (.normal,[p],[]))) (some (.exit 0,[],[]))
def P50(O:Orc)(a:DV):Option DA:=za (znx .eql a (.str ⟨#[]⟩)) fun c=>ifB c (some (S1 (.bool false))) (za (zlx a) fun d=>za (zc .gtr d (I6 32)) fun e=>ifB e (some (S1 (.bool false))) (za (zbJ a (I6 0)) fun f=>b1 (O 71 [S1 f]) fun g=>za (uE g) fun h=>ifB h (some (S1 (.bool false))) (z6 (zA (zpJ O a) [I6 1] []) (fun j _b _k=>bif Nat.beq j 0 then (some (S1 (.bool true))) else(none)) (fun b _k=>some (S1 (zf b 0))))))
theorem p50(O:Orc)(a0:DV):wM prog O yA (inl prog O yA zxQ redI 6) zBM 50 [S1 a0]=P50 O a0:=by kernel_rfl
def zxP:Nat→List PA→Nat→Nat→Option LA:=fun h _ n i=>match h,n,i with|28,0,999=>some ⟨[],[],[],[],[],[],[],[],[]⟩  |_,_,_=>none
def P51(O:Orc)(a b c d f h:DV):Option DA:=b1 (O 50 [S1 a]) fun g=>za (uE g) fun j=>ifB j (some (S1 (I6 8))) (b1 (O 50 [S1 b]) fun k=>za (uE k) fun l=>ifB l (some (S1 (I6 8))) (b1 (O 72 [SA [c,d]]) fun e=>za (zc .neq e (I6 0)) fun m=>ifB m (some (S1 e)) (b1 (O 73 [S1 f]) fun n=>za (uE n) fun o=>ifB o (some (S1 (I6 3))) (za (zY h) fun p=>za (zc .eql p (I6 0)) fun q=>ifB q (some (S1 (I6 13))) (za (zY h) fun r=>za (zc .gtr r (I6 128)) fun s=>ifB s (some (S1 (I6 4))) (b1 (O 74 [S1 h]) fun t=>some (S1 t)))))))
theorem p51(O:Orc)(a b c d f h:DV):wM prog O yA (inl prog O yA zxP redI 6) an0 51 [SA [a,b,c,d,f,h]]=P51 O a b c d f h:=by kernel_rfl
def zBL:Nat→Option LA:=fun i=>match i with|0=>some ⟨[.slot 25],[],[],[(2,1048576)],[],[],[.slot 4],[],[]⟩|_=>none
def zxO:Nat→List PA→Nat→Nat→Option LA:=fun h _ n i=>match h,n,i with|28,0,999=>some ⟨[],[],[],[],[],[],[],[],[]⟩  |_,_,_=>none
def zpI(O:Orc)(k a b c d:DV)(g:List DV)(f:List OC):Option PX:=za (zc .lss (zf g 0) k) fun l=>ifB l (za (yW 4 a (zf g 0)) fun e=>b1 (O 76 [SA [b,c,d],SA [atD e 0,atD e 1,atD e 2,atD e 3]]) fun h=>za (zc .neq h (I6 0)) fun m=>ifB m (some (.ret,[h],[some (zG (zt f 0))])) (za (zhO (.inl 2) (.one (atD e 0)) (.one (atD e 0))) fun _s=>za (zfQ (.inl 2) 1048576 (.one (atD e 0)) (zG (zt f 0))) fun n=>ifB (dsO (lkD (.one (.bool false)) n)) (za (zc .neq (I6 9) (I6 0)) fun o=>ifB o (some (.ret,[I6 9],[some (zG (zt f 0))])) (za (zc .add (zf g 0) (I6 1)) fun p=>some (.normal,[p],[some (zG (zt f 0))]))) (za (zhO (.inl 2) (.one (atD e 0)) (.one (atD e 0))) fun _t=>za (zpR (.inl 2) 1048576 (.one (atD e 0)) [atD e 0,.bool true] (zG (zt f 0))) fun j=>za (zc .neq (I6 0) (I6 0)) fun q=>ifB q (some (.ret,[I6 0],[some j])) (za (zc .add (zf g 0) (I6 1)) fun r=>some (.normal,[r],[some j]))))) (some (.exit 0,[],[some (zG (zt f 0))]))
def P53(O:Orc)(_a b _c _d _f _h j m r:DV):Option DA:=b1 (O 75 [SA [j,m]]) fun a=>za (zc .neq a (I6 0)) fun d=>ifB d (some (S1 a)) (za (zY r) fun e=>za (zc .gtr e (I6 60)) fun f=>ifB f (some (S1 (I6 4))) (za (zY r) fun g=>z6 (zA (zpI O g r b j m) [I6 0] [some []]) (fun h _c _k=>bif Nat.beq h 0 then (some (S1 (I6 0))) else(none)) (fun c _k=>some (S1 (zf c 0)))))
theorem p53(O:Orc)(a b c d f h j m r:DV):wM prog O yA (inl prog O yA zxO redI 6) zBL 53 [SA [a,b,c,d],SA [f,h,j,m,r]]=P53 O a b c d f h j m r:=by kernel_rfl
def zBK:Nat→Option LA:=fun i=>match i with|0=>some ⟨[.slot 19],[],[],[],[],[],[.slot 4],[],[]⟩|1=>some ⟨[.slot 29],[],[],[],[],[],[.slot 4],[],[]⟩|_=>none
def zxN:Nat→List PA→Nat→Nat→Option LA:=fun h _ n i=>match h,n,i with|28,0,999=>some ⟨[],[],[],[],[],[],[],[],[]⟩  |_,_,_=>none
def zhE(O:Orc)(e c d:DV)(b:List DV)(_y:List OC):Option PX:=za (zc .lss (zf b 0) e) fun f=>ifB f (za (yW 5 c (zf b 0)) fun a=>b1 (O 50 [S1 (atD a 0)]) fun g=>za (uE g) fun h=>ifB h (some (.ret,[I6 8],[])) (za (vY 5 c none (some (zf b 0))) fun j=>b1s (O 77 [S1 j,S1 (.fn 78 [[atD a 0,atD a 1,atD a 2,atD a 3,atD a 4]])]) fun k=>ifB k (some (.ret,[I6 9],[])) (za (zc .lss (atD a 1) (I6 0)) fun l=>ifB l (some (.ret,[I6 10],[])) (za (zY d) fun m=>za (zc .geq (atD a 1) m) fun n=>ifB n (some (.ret,[I6 10],[])) (za (zc .lss (atD a 2) (I6 0)) fun o=>ifB o (some (.ret,[I6 10],[])) (za (zY d) fun p=>za (zc .geq (atD a 2) p) fun q=>ifB q (some (.ret,[I6 10],[])) (za (zc .lss (atD a 3) (I6 (-127))) fun r=>ifB r (some (.ret,[I6 3],[])) (za (zc .gtr (atD a 3) (I6 127)) fun s=>ifB s (some (.ret,[I6 3],[])) (za (zc .eql (atD a 1) (atD a 2)) fun t=>ifB t (za (zc .eql (atD a 3) (I6 0)) fun v=>ifB v (some (.ret,[I6 7],[])) (za (zc .add (zf b 0) (I6 1)) fun w=>some (.normal,[w],[]))) (za (zc .add (zf b 0) (I6 1)) fun x=>some (.normal,[x],[]))))))))))) (some (.exit 2,[],[]))
def zpH(O:Orc)(c d:DV)(a:List DV)(_j:List OC):Option PX:=za (zc .lss (zf a 0) c) fun e=>ifB e (za (yW 2 d (zf a 0)) fun b=>b1 (O 75 [SA [atD b 0,atD b 1]]) fun f=>za (zc .neq f (I6 0)) fun g=>ifB g (some (.ret,[I6 23],[])) (za (zc .add (zf a 0) (I6 1)) fun h=>some (.normal,[h],[]))) (some (.exit 0,[],[]))
def P54(O:Orc)(a b:DV):Option DA:=za (zY a) fun e=>za (zc .gtr e (I6 8)) fun f=>ifB f (some (S1 (I6 4))) (za (zY b) fun g=>za (zc .gtr g (I6 40)) fun h=>ifB h (some (S1 (I6 4))) (za (zY a) fun j=>z6 (zA (zpH O j a) [I6 0] []) (fun k _c _l=>bif Nat.beq k 0 then (za (zY b) fun m=>z6 (zA (zhE O m b a) [I6 0] []) (fun n _d _o=>bif Nat.beq n 2 then (some (S1 (I6 0))) else(none)) (fun d _o=>some (S1 (zf d 0)))) else(none)) (fun c _l=>some (S1 (zf c 0)))))
theorem p54(O:Orc)(a0 a1:DV):wM prog O yA (inl prog O yA zxN redI 6) zBK 54 [S1 a0,S1 a1]=P54 O a0 a1:=by kernel_rfl
def zxM:Nat→List PA→Nat→Nat→Option LA:=fun h _ n i=>match h,n,i with|28,0,999=>some ⟨[],[],[],[],[],[],[],[],[]⟩  |_,_,_=>none
def P55(O:Orc)(a b c d f h j:DV):Option DA:=b1 (O 27 [SA [a,b,c,d]]) fun e=>za (zc .neq e (I6 0)) fun g=>ifB g (some (S1 e)) (b1 (O 10 [SA [a,b,c,d],SA [f,h,j]]) fun k=>some (S1 k))
theorem p55(O:Orc)(a b c d f h j:DV):wM prog O yA (inl prog O yA zxM redI 6) an0 55 [SA [a,b,c,d],SA [f,h,j]]=P55 O a b c d f h j:=by kernel_rfl
def zBJ:Nat→Option LA:=fun i=>match i with|0=>some ⟨[.slot 8],[],[],[],[],[],[.slot 4],[],[]⟩|_=>none
def zxL:Nat→List PA→Nat→Nat→Option LA:=fun h _ n i=>match h,n,i with|28,0,999=>some ⟨[],[],[],[],[],[],[],[],[]⟩  |_,_,_=>none
def zpG(O:Orc)(c d e:DV)(a:List DV)(_j:List OC):Option PX:=za (zc .lss (zf a 0) c) fun f=>ifB f (za (yW 3 d (zf a 0)) fun b=>b1 (zhR O e [SA [atD b 0,atD b 1,atD b 2]]) fun g=>ifB g (some (.ret,[zf a 0],[])) (za (zc .add (zf a 0) (I6 1)) fun h=>some (.normal,[h],[]))) (some (.exit 0,[],[]))
def P57(O:Orc)(a c:DV):Option DA:=za (zY a) fun d=>z6 (zA (zpG O d a c) [I6 0] []) (fun e _b _f=>bif Nat.beq e 0 then (some (S1 (I6 (-1)))) else(none)) (fun b _f=>some (S1 (zf b 0)))
theorem p57(O:Orc)(a0 a1:DV):wM prog O yA (inl prog O yA zxL redI 6) zBJ 57 [S1 a0,S1 a1]=P57 O a0 a1:=by kernel_rfl
def zBI:Nat→Option LA:=fun i=>match i with|0=>some ⟨[.slot 8],[],[],[],[],[],[.slot 4],[],[]⟩|_=>none
def zxK:Nat→List PA→Nat→Nat→Option LA:=fun h _ n i=>match h,n,i with|28,0,999=>some ⟨[],[],[],[],[],[],[],[],[]⟩  |_,_,_=>none
def zpF(f g a b c:DV)(d:List DV)(_l:List OC):Option PX:=za (zc .lss (zf d 0) f) fun h=>ifB h (za (yW 3 g (zf d 0)) fun e=>za (zmq [1,1,1] [a,b,c] [atD e 0,atD e 1,atD e 2]) fun j=>ifB (.bool j) (some (.ret,[zf d 0],[])) (za (zc .add (zf d 0) (I6 1)) fun k=>some (.normal,[k],[]))) (some (.exit 0,[],[]))
def P58(_O:Orc)(d a b c:DV):Option DA:=za (zY d) fun f=>z6 (zA (zpF f d a b c) [I6 0] []) (fun g _e _h=>bif Nat.beq g 0 then (some (S1 (I6 (-1)))) else(none)) (fun e _h=>some (S1 (zf e 0)))
theorem p58(O:Orc)(a0 a b c:DV):wM prog O yA (inl prog O yA zxK redI 6) zBI 58 [S1 a0,SA [a,b,c]]=P58 O a0 a b c:=by kernel_rfl
def zE4:Nat→List PA→Nat→Nat→Option LA:=fun h _ n i=>match h,n,i with|28,0,999=>some ⟨[],[],[],[],[],[],[],[],[]⟩  |_,_,_=>none
def P61(O:Orc)(a b c d f h j m r:DV):Option DA:=b1s (O 80 [SA [a,b,c,d],S1 (.lst 3 [[f,h,j]])]) fun e=>za (zc .neq e (I6 0)) fun g=>ifB g (some (S1 e)) (b1 (O 81 [SA [a,b,c,d],SA [m,r]]) fun k=>some (S1 k))
theorem p61(O:Orc)(a b c d f h j m r:DV):wM prog O yA (inl prog O yA zE4 redI 6) an0 61 [SA [a,b,c,d],SA [f,h,j],SA [m,r]]=P61 O a b c d f h j m r:=by kernel_rfl
def zE3:Nat→List PA→Nat→Nat→Option LA:=fun h _ n i=>match h,n,i with|28,0,999=>some ⟨[],[],[],[],[],[],[],[],[]⟩  |_,_,_=>none
def P62(O:Orc)(a b c d f h j e:DV):Option DA:=b1 (O 83 [SA [a,b,c,d],SA [f,h,j],S1 e]) fun g=>b1 (O 82 [SA [a,b,c,d],SA [f,h,j],S1 g]) fun k=>some (S1 k)
theorem p62(O:Orc)(a b c d f h j a2:DV):wM prog O yA (inl prog O yA zE3 redI 6) an0 62 [SA [a,b,c,d],SA [f,h,j],S1 a2]=P62 O a b c d f h j a2:=by kernel_rfl
def zxI:Nat→List PA→Nat→Nat→Option LA:=fun h _ n i=>match h,n,i with|28,0,999=>some ⟨[],[],[],[],[],[],[],[],[]⟩  |_,_,_=>none
def P69(O:Orc)(a b c d:DV):Option DA:=b1 (O 72 [SA [a,b]]) fun e=>za (zc .neq e (I6 0)) fun f=>ifB f (some (S1 e)) (b1 (O 72 [SA [c,d]]) fun g=>some (S1 g))
theorem p69(O:Orc)(a b c d:DV):wM prog O yA (inl prog O yA zxI redI 6) an0 69 [SA [a,b],SA [c,d]]=P69 O a b c d:=by kernel_rfl
def zBG:Nat→Option LA:=fun i=>match i with|0=>some ⟨[.slot 5,.slot 7],[],[],[],[.slot 5,.slot 7],[],[],[],[]⟩|1=>some ⟨[.slot 6,.slot 7],[],[],[],[.slot 6,.slot 7],[],[],[],[]⟩|2=>some ⟨[.slot 12,.slot 7],[],[],[],[.slot 7],[],[],[],[]⟩|_=>none
def zxH:Nat→List PA→Nat→Nat→Option LA:=fun h _ n i=>match h,n,i with|28,0,999=>some ⟨[],[],[],[],[],[],[],[],[]⟩  |_,_,_=>none
def zhD(O:Orc)(b:List DS)(a:List DV)(_g:List OC):Option PX:=b1 (O 88 [S1 (dsO (zT b 0)),S1 (zf a 0)]) fun c=>za (zc .gtr c (I6 0)) fun d=>ifB d (za (zc .add (zf a 1) (I6 1)) fun e=>b1 (O 87 [S1 (zf a 0),S1 (.str ⟨#[52]⟩)]) fun f=>some (.normal,[f,e],[])) (some (.exit 4,[zf a 1],[]))
def zeK(b:List DV)(a:List DV)(_g:List OC):Option PX:=za (zc .mul (I6 2) (zf a 0)) fun c=>za (zc .geq (zf b 0) c) fun d=>ifB d (za (zc .mul (zf a 0) (I6 2)) fun e=>za (zc .add (zf a 1) (I6 12)) fun f=>some (.normal,[e,f],[])) (some (.exit 2,[zf a 0,zf a 1],[]))
def zmk(b:DV)(a:List DV)(_f:List OC):Option PX:=za (zc .lss (zf a 0) b) fun c=>ifB c (za (zc .mul (zf a 0) (I6 2)) fun d=>za (zc .sub (zf a 1) (I6 12)) fun e=>some (.normal,[d,e],[])) (some (.exit 0,[zf a 0,zf a 1],[]))
def P70(O:Orc)(a b c d:DV):Option DA:=za (zc .mul c b) fun j=>za (zc .mul d a) fun g=>z6 (zA (zmk g) [j,I6 0] []) (fun k e _l=>bif Nat.beq k 0 then (z6 (zA (zeK e) [g,zf e 1] []) (fun m f _n=>bif Nat.beq m 2 then (b1 (O 86 [S1 (zf e 0)]) fun o=>bT [none,none] (O 85 [S1 o,S1 (I6 24)]) fun p=>b1 (O 86 [S1 (zf f 0)]) fun q=>bT [none,none] (O 85 [S1 q,S1 (I6 24)]) fun r=>b1 (O 87 [S1 (dsO (zT r 0)),S1 (.str ⟨#[50]⟩)]) fun s=>z6 (zA (zhD O p) [s,zf f 1] []) (fun t h _v=>bif Nat.beq t 4 then (some (S1 (zf h 0))) else(none)) (fun _h _v=>none)) else(none)) (fun _f _n=>none)) else(none)) (fun _e _l=>none)
theorem p70(O:Orc)(a b c d:DV):wM prog O yA (inl prog O yA zxH redI 6) zBG 70 [SA [a,b],SA [c,d]]=P70 O a b c d:=by kernel_rfl
def zxG:Nat→List PA→Nat→Nat→Option LA:=fun h _ n i=>match h,n,i with|28,0,999=>some ⟨[],[],[],[],[],[],[],[],[]⟩  |_,_,_=>none
def P71(_O:Orc)(a:DV):Option DA:=za (zc .geq a (U8 65)) fun b=>ifB b (za (zc .leq a (U8 90)) fun c=>ifB c (some (S1 (.bool true))) (za (zc .geq a (U8 97)) fun d=>ifB d (za (zc .leq a (U8 122)) fun e=>some (S1 e)) (some (S1 (.bool false))))) (za (zc .geq a (U8 97)) fun f=>ifB f (za (zc .leq a (U8 122)) fun g=>some (S1 g)) (some (S1 (.bool false))))
theorem p71(O:Orc)(a0:DV):wM prog O yA (inl prog O yA zxG redI 6) an0 71 [S1 a0]=P71 O a0:=by kernel_rfl
def zxF:Nat→List PA→Nat→Nat→Option LA:=fun h _ n i=>match h,n,i with|28,0,999=>some ⟨[],[],[],[],[],[],[],[],[]⟩  |_,_,_=>none
def P72(O:Orc)(a b:DV):Option DA:=b1 (O 89 [SA [a,b]]) fun c=>za (zc .neq c (I6 0)) fun d=>ifB d (some (S1 (I6 2))) (za (zc .leq a (I6 0)) fun e=>ifB e (some (S1 (I6 3))) (za (zc .mul (I6 128) b) fun f=>za (zc .gtr a f) fun g=>ifB g (some (S1 (I6 3))) (za (zc .gtr b (I6 128)) fun h=>ifB h (some (S1 (I6 4))) (some (S1 (I6 0))))))
theorem p72(O:Orc)(a b:DV):wM prog O yA (inl prog O yA zxF redI 6) an0 72 [SA [a,b]]=P72 O a b:=by kernel_rfl
def zxE:Nat→List PA→Nat→Nat→Option LA:=fun h _ n i=>match h,n,i with|28,0,999=>some ⟨[],[],[],[],[],[],[],[],[]⟩  |_,_,_=>none
def P73(_O:Orc)(a:DV):Option DA:=za (zc .geq a (I6 (-256))) fun b=>ifB b (za (zc .leq a (I6 256)) fun c=>some (S1 c)) (some (S1 (.bool false)))
theorem p73(O:Orc)(a0:DV):wM prog O yA (inl prog O yA zxE redI 6) an0 73 [S1 a0]=P73 O a0:=by kernel_rfl
def zxD:Nat→List PA→Nat→Nat→Option LA:=fun h _ n i=>match h,n,i with|28,0,999=>some ⟨[],[],[],[],[],[],[],[],[]⟩  |_,_,_=>none
def P74(O:Orc)(a:DV):Option DA:=b1 (O 90 [S1 a,S1 (.fn 91 [])]) fun b=>ifB b (some (S1 (I6 3))) (some (S1 (I6 0)))
theorem p74(O:Orc)(a0:DV):wM prog O yA (inl prog O yA zxD redI 6) an0 74 [S1 a0]=P74 O a0:=by kernel_rfl
def zxC:Nat→List PA→Nat→Nat→Option LA:=fun h _ n i=>match h,n,i with|28,0,999=>some ⟨[],[],[],[],[],[],[],[],[]⟩  |_,_,_=>none
def P75(_O:Orc)(a b:DV):Option DA:=za (zc .lss a (I6 0)) fun c=>ifB c (some (S1 (I6 3))) (za (zc .gtr b (I6 127)) fun d=>ifB d (some (S1 (I6 3))) (za (zc .gtr a b) fun e=>ifB e (some (S1 (I6 23))) (some (S1 (I6 0)))))
theorem p75(O:Orc)(a b:DV):wM prog O yA (inl prog O yA zxC redI 6) an0 75 [SA [a,b]]=P75 O a b:=by kernel_rfl
def zBF:Nat→Option LA:=fun i=>match i with|0=>some ⟨[.slot 38],[],[],[],[],[],[.slot 4],[],[]⟩|_=>none
def zxB:Nat→List PA→Nat→Nat→Option LA:=fun h _ n i=>match h,n,i with|28,0,999=>some ⟨[],[],[],[],[],[],[],[],[]⟩  |_,_,_=>none
def zhC(O:Orc)(j a b c d:DV)(f:List DV)(_z:List OC):Option PX:=za (zc .lss (zf f 0) j) fun k=>ifB k (za (yW 3 a (zf f 0)) fun e=>za (wp false (atD e 0) [atD e 1]) fun l=>za (zc .lss l b) fun m=>ifB m (some (.ret,[I6 23],[])) (za (wp true (atD e 0) [atD e 1]) fun n=>za (zc .gtr n c) fun o=>ifB o (some (.ret,[I6 23],[])) (za (zc .gtr (atD e 0) (atD e 1)) fun p=>ifB p (some (.ret,[I6 6],[])) (za (zc .gtr (zf f 0) (I6 0)) fun q=>ifB q (za (zc .sub (zf f 0) (I6 1)) fun r=>za (yW 3 a r) fun s=>za (zc .leq (atD e 0) (atD s 1)) fun t=>ifB t (some (.ret,[I6 6],[])) (b1 (O 93 [SA [d,b,c],S1 (atD e 2)]) fun g=>za (zc .neq g (I6 0)) fun v=>ifB v (some (.ret,[g],[])) (za (zc .add (zf f 0) (I6 1)) fun w=>some (.normal,[w],[])))) (b1 (O 93 [SA [d,b,c],S1 (atD e 2)]) fun h=>za (zc .neq h (I6 0)) fun x=>ifB x (some (.ret,[h],[])) (za (zc .add (zf f 0) (I6 1)) fun y=>some (.normal,[y],[]))))))) (some (.exit 1,[],[]))
def P76(O:Orc)(a b c d f h j:DV):Option DA:=b1 (O 92 [SA [a,b,c]]) fun e=>za (zc .neq e (I6 0)) fun l=>ifB l (some (S1 e)) (b1 (O 50 [S1 d]) fun m=>za (uE m) fun n=>ifB n (some (S1 (I6 8))) (b1 (O 72 [SA [f,h]]) fun g=>za (zc .neq g (I6 0)) fun o=>ifB o (some (S1 g)) (za (zY j) fun p=>za (zc .eql p (I6 0)) fun q=>ifB q (some (S1 (I6 13))) (za (zY j) fun r=>za (zc .gtr r (I6 12)) fun s=>ifB s (some (S1 (I6 4))) (za (zY j) fun t=>z6 (zA (zhC O t j b c a) [I6 0] []) (fun v _k _w=>bif Nat.beq v 1 then (some (S1 (I6 0))) else(none)) (fun k _w=>some (S1 (zf k 0))))))))
theorem p76(O:Orc)(a b c d f h j:DV):wM prog O yA (inl prog O yA zxB redI 6) zBF 76 [SA [a,b,c],SA [d,f,h,j]]=P76 O a b c d f h j:=by kernel_rfl
def zxA:Nat→List PA→Nat→Nat→Option LA:=fun h _ n i=>match h,n,i with|28,0,999=>some ⟨[],[],[],[],[],[],[],[],[]⟩  |_,_,_=>none
def P77(O:Orc)(a b:DV):Option DA:=b1 (O 94 [S1 a,S1 b]) fun c=>za (zc .geq c (I6 0)) fun d=>some (S1 d)
theorem p77(O:Orc)(a0 a1:DV):wM prog O yA (inl prog O yA zxA redI 6) an0 77 [S1 a0,S1 a1]=P77 O a0 a1:=by kernel_rfl
def zxz:Nat→List PA→Nat→Nat→Option LA:=fun h _ n i=>match h,n,i with|28,0,999=>some ⟨[],[],[],[],[],[],[],[],[]⟩  |_,_,_=>none
def P78(_O:Orc)(a _b _c _d _f h _j _m _r _s:DV):Option DA:=za (znx .eql a h) fun b=>some (S1 b)
theorem p78(O:Orc)(a b c d f h j m r s:DV):wM prog O yA (inl prog O yA zxz redI 6) an0 78 [SA [a,b,c,d,f],S1 (.fp [h,j,m,r,s] 0)]=P78 O a b c d f h j m r s:=by kernel_rfl
def zFE:Nat→Option LA:=fun i=>match i with|0=>some ⟨[.slot 16],[],[],[],[],[],[.slot 4],[],[]⟩|_=>none
def zE2:Nat→List PA→Nat→Nat→Option LA:=fun h _ n i=>match h,n,i with|28,0,999=>some ⟨[],[],[],[],[],[],[],[],[]⟩  |_,_,_=>none
def zEs(O:Orc)(h j a b c d:DV)(e:List DV)(_n:List OC):Option PX:=za (zc .lss (zf e 0) h) fun k=>ifB k (za (yW 3 j (zf e 0)) fun f=>b1 (O 10 [SA [a,b,c,d],SA [atD f 0,atD f 1,atD f 2]]) fun g=>za (zc .neq g (I6 0)) fun l=>ifB l (some (.ret,[g],[])) (za (zc .add (zf e 0) (I6 1)) fun m=>some (.normal,[m],[]))) (some (.exit 0,[],[]))
def P80(O:Orc)(a b c d e:DV):Option DA:=b1 (O 27 [SA [a,b,c,d]]) fun f=>za (zc .neq f (I6 0)) fun h=>ifB h (some (S1 f)) (za (zY e) fun j=>z6 (zA (zEs O j e a b c d) [I6 0] []) (fun k _g _l=>bif Nat.beq k 0 then (some (S1 (I6 0))) else(none)) (fun g _l=>some (S1 (zf g 0))))
theorem p80(O:Orc)(a b c d a1:DV):wM prog O yA (inl prog O yA zE2 redI 6) zFE 80 [SA [a,b,c,d],S1 a1]=P80 O a b c d a1:=by kernel_rfl
def zE1:Nat→List PA→Nat→Nat→Option LA:=fun h _ n i=>match h,n,i with|28,0,999=>some ⟨[],[],[],[],[],[],[],[],[]⟩  |_,_,_=>none
def P81(_O:Orc)(_a _b c _d f h:DV):Option DA:=za (zc .lss f (I6 0)) fun b=>ifB b (some (S1 (I6 10))) (za (zY c) fun d=>za (zc .geq f d) fun e=>ifB e (some (S1 (I6 10))) (za (yW 5 c f) fun a=>za (zc .lss h (atD a 2)) fun g=>ifB g (some (S1 (I6 23))) (za (zc .gtr h (atD a 3)) fun j=>ifB j (some (S1 (I6 23))) (some (S1 (I6 0))))))
theorem p81(O:Orc)(a b c d f h:DV):wM prog O yA (inl prog O yA zE1 redI 6) an0 81 [SA [a,b,c,d],SA [f,h]]=P81 O a b c d f h:=by kernel_rfl
def zFD:Nat→Option LA:=fun i=>match i with|0=>some ⟨[.slot 14],[(.slot 7,2)],[],[],[],[(.slot 7,2)],[],[],[]⟩|1=>some ⟨[.slot 26],[(.slot 7,2)],[],[],[],[(.slot 7,2)],[],[],[]⟩|_=>none
def zE0:Nat→List PA→Nat→Nat→Option LA:=fun h _ n i=>match h,n,i with|28,0,999=>some ⟨[],[],[],[],[],[],[],[],[]⟩|99,3,0=>some ⟨[.slot 3],[(.slot 0,2)],[],[],[],[(.slot 0,2)],[.slot 2],[],[]⟩|99,3,1=>some ⟨[.slot 5,.slot 3],[],[],[(3,2)],[.slot 3],[],[],[],[]⟩|_,_,_=>none
def zFf(b:Nat×Nat)(a:List DV)(c:List OC):Option PX:=za (zc .lss (zf a 0) (.int .i64 (.ofNat b.2))) fun g=>ifB g (za (jV b.2 (zf a 0)) fun h=>za (jW (zt c 0) (b.1+h)) fun d=>za (zc .sub (zf a 0) (I6 1)) fun j=>za (jV b.2 j) fun k=>za (jW (zt c 0) (b.1+k)) fun e=>za (zmq [1,1] [atD d 0,atD d 1] [atD e 0,atD e 1]) fun l=>ifB (.bool (!l)) (za (jV b.2 (zf a 0)) fun m=>za (jW (zt c 0) (b.1+m)) fun f=>za (xe (zt c 0) (zf a 1)) fun n=>za (zgo 2 (zt c 0) n 0 [atD f 0,atD f 1]) fun o=>za (zc .add (zf a 1) (I6 1)) fun p=>za (zc .add (zf a 0) (I6 1)) fun q=>some (.normal,[q,p],[o])) (za (zc .add (zf a 0) (I6 1)) fun r=>some (.normal,[r,zf a 1],[zt c 0]))) (some (.exit 2,[zf a 1],[zt c 0]))
def zED(b:List DV)(a:List OC):Option PX:=za (zc .lss (zf b 0) (I6 (Int.ofNat (xR (zt a 0))))) fun k=>ifB k (za (xe (zt a 0) (zf b 0)) fun l=>za (jW (zt a 0) l) fun g=>za (zc .sub (zf b 0) (I6 1)) fun m=>za (xe (zt a 0) m) fun n=>za (jW (zt a 0) n) fun h=>za (zmq [1,1] [atD g 0,atD g 1] [atD h 0,atD h 1]) fun o=>ifB (.bool o) (za (vwB (some (zf b 0)) none (xR (zt a 0))) fun p=>z6 (zA (zFf p) [I6 1,zf b 0] [zt a 0]) (fun f d c=>bif Nat.beq f 2 then (za (vwB (some (zf d 0)) none (xR (zt c 0))) fun e=>za (vwB none (some (zf d 0)) (xR (zms (zt c 0) e.1 e.2 [I6 0,I6 0]))) fun j=>some (.ret,[zqz 2 j.1 j.2 (mkL 2 (zms (zt c 0) e.1 e.2 [I6 0,I6 0]))],[])) else(bif Nat.beq f 1 then (za (zc .add (zf d 0) (I6 1)) fun q=>some (.normal,[q],[zt c 0])) else(some (.exit f,[],[zt c 0])))) (fun _d _c=>none)) (za (zc .add (zf b 0) (I6 1)) fun r=>some (.normal,[r],[zt a 0]))) (some (.exit 0,[],[zt a 0]))
def zC4(O:Orc)(h:DV)(j:List DV)(a:DV)(f:List DV)(b:DV)(c:List DV)(d:List OC):Option PX:=za (zc .lss (zf c 0) h) fun k=>ifB k (za (yW 4 (atD j 4) (zf c 0)) fun e=>za (yW 1 a (atD f 0)) fun l=>za (z7 false (atD l 0) (zf c 0)) fun m=>za (zc .and m (U64 1)) fun n=>za (zc .eql n (U64 1)) fun o=>ifB o (b1 (O 96 [S1 b,SA [atD e 0,atD e 1,atD e 2,atD e 3],S1 (atD f 1)]) fun p=>za (vZ 2 p) fun g=>gd (fits 16 (xR (zt d 0)+(g:List (List DV)).length)) (za (zc .add (zf c 0) (I6 1)) fun q=>some (.normal,[q],[zdU (zt d 0) g]))) (za (zc .add (zf c 0) (I6 1)) fun r=>some (.normal,[r],[zt d 0]))) (some (.exit 2,[],[zt d 0]))
def zD7(O:Orc)(k l a b c:DV)(d:List DV)(g:List OC):Option PX:=za (zc .lss (zf d 0) k) fun m=>ifB m (za (yW 2 l (zf d 0)) fun h=>za (yW 5 a (atD h 0)) fun j=>za (zY (atD j 4)) fun n=>z6 (zA (zC4 O n j b h c) [I6 0] [zt g 0]) (fun f _o e=>bif Nat.beq f 2 then (za (zc .add (zf d 0) (I6 1)) fun p=>some (.normal,[p],[zt e 0])) else(bif Nat.beq f 1 then (za (zc .add (zf d 0) (I6 1)) fun q=>some (.normal,[q],[zt e 0])) else(some (.exit f,[],[zt e 0])))) (fun _o _e=>none)) (some (.exit 0,[],[zt g 0]))
def P82(O:Orc)(_a b c _d f _h _j d:DV):Option DA:=za (zY d) fun j=>z6 (zA (zD7 O j d c f b) [I6 0] [none]) (fun k _l e=>bif Nat.beq k 0 then (za (zA9 2 (zt e 0)) fun a=>za (zc .lss (I6 (Int.ofNat (xR a))) (I6 2)) fun m=>ifB m (some (S1 (mkL 2 a))) (z6 (zA zED [I6 1] [a]) (fun n _g h=>bif Nat.beq n 0 then (some (S1 (mkL 2 (zt h 0)))) else(none)) (fun g _h=>some (S1 (zf g 0))))) else(none)) (fun _l _e=>none)
theorem p82(O:Orc)(a b c d f h j a2:DV):wM prog O yA (inl prog O yA zE0 redI 6) zFD 82 [SA [a,b,c,d],SA [f,h,j],S1 a2]=P82 O a b c d f h j a2:=by kernel_rfl
def zFC:Nat→Option LA:=fun i=>match i with|0=>some ⟨[.slot 18],[(.cell 4 0,2),(.slot 9,2)],[(4,1)],[(2,1051648)],[],[(.slot 9,2),(.cell 4 0,2)],[],[(.cell 4 0,2)],[]⟩|1=>some ⟨[.slot 13],[(.cell 4 0,2)],[(4,1)],[(2,1051648)],[],[(.cell 4 0,2)],[],[(.cell 4 0,2)],[]⟩|_=>none
def zEZ:Nat→List PA→Nat→Nat→Option LA:=fun h _ n i=>match h,n,i with|28,0,999=>some ⟨[],[],[],[],[],[],[],[],[]⟩|100,8,0=>some ⟨[.slot 14],[(.cell 4 0,2)],[(4,1)],[(2,1051648)],[],[(.cell 4 0,2)],[],[(.cell 4 0,2)],[]⟩|103,9,0=>some ⟨[.slot 3],[(.slot 0,2)],[],[],[],[(.slot 0,2)],[.slot 2],[],[]⟩|103,9,1=>some ⟨[.slot 5,.slot 3],[],[],[(9,2)],[.slot 3],[],[],[],[]⟩|_,_,_=>none
def zFe(b:Nat×Nat)(a:List DV)(c:List OC):Option PX:=za (zc .lss (zf a 0) (.int .i64 (.ofNat b.2))) fun g=>ifB g (za (jV b.2 (zf a 0)) fun h=>za (jW (zt c 0) (b.1+h)) fun d=>za (zc .sub (zf a 0) (I6 1)) fun j=>za (jV b.2 j) fun k=>za (jW (zt c 0) (b.1+k)) fun e=>za (zmq [1,1] [atD d 0,atD d 1] [atD e 0,atD e 1]) fun l=>ifB (.bool (!l)) (za (jV b.2 (zf a 0)) fun m=>za (jW (zt c 0) (b.1+m)) fun f=>za (xe (zt c 0) (zf a 1)) fun n=>za (zgo 2 (zt c 0) n 0 [atD f 0,atD f 1]) fun o=>za (zc .add (zf a 1) (I6 1)) fun p=>za (zc .add (zf a 0) (I6 1)) fun q=>some (.normal,[q,p],[o])) (za (zc .add (zf a 0) (I6 1)) fun r=>some (.normal,[r,zf a 1],[zt c 0]))) (some (.exit 2,[zf a 1],[zt c 0]))
def zEC(b:List DV)(a:List OC):Option PX:=za (zc .lss (zf b 0) (I6 (Int.ofNat (xR (zt a 0))))) fun k=>ifB k (za (xe (zt a 0) (zf b 0)) fun l=>za (jW (zt a 0) l) fun g=>za (zc .sub (zf b 0) (I6 1)) fun m=>za (xe (zt a 0) m) fun n=>za (jW (zt a 0) n) fun h=>za (zmq [1,1] [atD g 0,atD g 1] [atD h 0,atD h 1]) fun o=>ifB (.bool o) (za (vwB (some (zf b 0)) none (xR (zt a 0))) fun p=>z6 (zA (zFe p) [I6 1,zf b 0] [zt a 0]) (fun f d c=>bif Nat.beq f 2 then (za (vwB (some (zf d 0)) none (xR (zt c 0))) fun e=>za (vwB none (some (zf d 0)) (xR (zms (zt c 0) e.1 e.2 [I6 0,I6 0]))) fun j=>some (.ret,[zqz 2 j.1 j.2 (mkL 2 (zms (zt c 0) e.1 e.2 [I6 0,I6 0]))],[])) else(bif Nat.beq f 1 then (za (zc .add (zf d 0) (I6 1)) fun q=>some (.normal,[q],[zt c 0])) else(some (.exit f,[],[zt c 0])))) (fun _d _c=>none)) (za (zc .add (zf b 0) (I6 1)) fun r=>some (.normal,[r],[zt a 0]))) (some (.exit 0,[],[zt a 0]))
def zDr(O:Orc)(l a b:DV)(k:List DV)(c d f:DV)(h:List DV)(e:List OC):Option PX:=za (zc .lss (zf h 0) l) fun m=>ifB m (za (yW 5 a (zf h 0)) fun g=>za (z7 false b (zf h 0)) fun n=>za (zc .and n (U64 1)) fun o=>za (zc .eql o (U64 0)) fun p=>ifB p (za (zc .add (zf h 0) (I6 1)) fun q=>some (.normal,[q],[zt e 0,some (zG (zt e 1))])) (za (zc .neq (atD g 1) (atD k 0)) fun r=>ifB r (za (zc .add (zf h 0) (I6 1)) fun s=>some (.normal,[s],[zt e 0,some (zG (zt e 1))])) (za (uE (atD g 4)) fun t=>ifB t (za (zc .add (zf h 0) (I6 1)) fun v=>some (.normal,[v],[zt e 0,some (zG (zt e 1))])) (za (zc .add (atD k 1) (atD g 3)) fun j=>b1 (O 81 [SA [c,d,f,a],SA [atD g 2,j]]) fun w=>za (zc .eql w (I6 0)) fun x=>ifB x (za (zhO (.inr [1,1]) (.agg [atD g 2,j]) (.agg [atD g 2,j])) fun _F=>za (zfQ (.inr [1,1]) 1051648 (.agg [atD g 2,j]) (zG (zt e 1))) fun y=>za (uE (dsO (lkD (.one (.bool false)) y))) fun z=>ifB z (za (zhO (.inr [1,1]) (.agg [atD g 2,j]) (.agg [atD g 2,j])) fun _G=>za (zpR (.inr [1,1]) 1051648 (.agg [atD g 2,j]) [atD g 2,j,.bool true] (zG (zt e 1))) fun A=>gd (fits 16 (xR (zt e 0)+1)) (za (zc .add (zf h 0) (I6 1)) fun B=>some (.normal,[B],[some (zG (zt e 0)++[[atD g 2,j]]),some A]))) (za (zc .add (zf h 0) (I6 1)) fun C=>some (.normal,[C],[zt e 0,some (zG (zt e 1))]))) (za (zc .add (zf h 0) (I6 1)) fun E=>some (.normal,[E],[zt e 0,some (zG (zt e 1))])))))) (some (.exit 0,[],[zt e 0,some (zG (zt e 1))]))
def zDt(O:Orc)(a b c d f:DV)(g:List DV)(e:List OC):Option PX:=za (zc .lss (zf g 0) (I6 (Int.ofNat (xR (zt e 0))))) fun j=>ifB j (za (xe (zt e 0) (zf g 0)) fun k=>za (jW (zt e 0) k) fun l=>za (zY a) fun m=>z6 (zA (zDr O m a b l c d f) [I6 0] [zt e 0,some (zG (zt e 1))]) (fun n _o h=>bif Nat.beq n 0 then (za (zc .add (zf g 0) (I6 1)) fun p=>some (.normal,[p],[zt h 0,some (zG (zt h 1))])) else(none)) (fun _o _h=>none)) (some (.exit 2,[],[zt e 0,some (zG (zt e 1))]))
def zDu(O:Orc)(l a b:DV)(k:List DV)(c d f:DV)(j:List DV)(e:List OC):Option PX:=za (zc .lss (zf j 0) l) fun m=>ifB m (za (yW 5 a (zf j 0)) fun g=>za (z7 false b (zf j 0)) fun n=>za (zc .and n (U64 1)) fun o=>za (zc .eql o (U64 0)) fun p=>ifB p (za (zc .add (zf j 0) (I6 1)) fun q=>some (.normal,[q],[zt e 0,some (zG (zt e 1))])) (za (zc .neq (atD g 1) (atD k 0)) fun r=>ifB r (za (zc .add (zf j 0) (I6 1)) fun s=>some (.normal,[s],[zt e 0,some (zG (zt e 1))])) (za (zc .add (atD k 1) (atD g 3)) fun h=>b1 (O 81 [SA [c,d,f,a],SA [atD g 2,h]]) fun t=>za (zc .eql t (I6 0)) fun v=>ifB v (za (zhO (.inr [1,1]) (.agg [atD g 2,h]) (.agg [atD g 2,h])) fun _C=>za (zfQ (.inr [1,1]) 1051648 (.agg [atD g 2,h]) (zG (zt e 1))) fun w=>za (uE (dsO (lkD (.one (.bool false)) w))) fun x=>ifB x (za (zhO (.inr [1,1]) (.agg [atD g 2,h]) (.agg [atD g 2,h])) fun _E=>za (zpR (.inr [1,1]) 1051648 (.agg [atD g 2,h]) [atD g 2,h,.bool true] (zG (zt e 1))) fun y=>gd (fits 16 (xR (zt e 0)+1)) (za (zc .add (zf j 0) (I6 1)) fun z=>some (.normal,[z],[some (zG (zt e 0)++[[atD g 2,h]]),some y]))) (za (zc .add (zf j 0) (I6 1)) fun A=>some (.normal,[A],[zt e 0,some (zG (zt e 1))]))) (za (zc .add (zf j 0) (I6 1)) fun B=>some (.normal,[B],[zt e 0,some (zG (zt e 1))]))))) (some (.exit 0,[],[zt e 0,some (zG (zt e 1))]))
def zEr(O:Orc)(l m a b c d f h:DV)(j:List DV)(e:List OC):Option PX:=za (zc .lss (zf j 0) l) fun n=>ifB n (za (yW 2 m (zf j 0)) fun k=>za (zY a) fun o=>z6 (zA (zDu O o a b k c d f) [I6 0] [zt e 0,some (zG (zt e 2))]) (fun p _q g=>bif Nat.beq p 0 then (za (z7 false h (atD k 0)) fun r=>za (zc .and r (U64 1)) fun s=>za (zc .eql s (U64 0)) fun t=>ifB t (gd (fits 16 (xR (zt e 1)+1)) (za (zc .add (zf j 0) (I6 1)) fun v=>some (.normal,[v],[zt g 0,some (zG (zt e 1)++[[atD k 0,atD k 1]]),some (zG (zt g 1))]))) (za (zc .add (zf j 0) (I6 1)) fun w=>some (.normal,[w],[zt g 0,zt e 1,some (zG (zt g 1))]))) else(none)) (fun _q _g=>none)) (some (.exit 0,[],[zt e 1,zt e 0,some (zG (zt e 2))]))
def P83(O:Orc)(a b c d _f h j k:DV):Option DA:=za (zY k) fun n=>z6 (zA (zEr O n k d h a b c j) [I6 0] [none,none,some []]) (fun o _p e=>bif Nat.beq o 0 then (z6 (zA (zDt O d h a b c) [I6 0] [zt e 1,some (zG (zt e 2))]) (fun q _r f=>bif Nat.beq q 2 then (gd (fits 16 (xR (zt e 0)+((zG (zt f 0)):List (List DV)).length)) (za (zA9 2 (zdU (zt e 0) (zG (zt f 0)))) fun g=>za (zc .lss (I6 (Int.ofNat (xR g))) (I6 2)) fun s=>ifB s (some (S1 (mkL 2 g))) (z6 (zA zEC [I6 1] [g]) (fun t _l m=>bif Nat.beq t 0 then (some (S1 (mkL 2 (zt m 0)))) else(none)) (fun l _m=>some (S1 (zf l 0)))))) else(none)) (fun _r _f=>none)) else(none)) (fun _p _e=>none)
theorem p83(O:Orc)(a b c d f h j a2:DV):wM prog O yA (inl prog O yA zEZ redI 6) zFC 83 [SA [a,b,c,d],SA [f,h,j],S1 a2]=P83 O a b c d f h j a2:=by kernel_rfl
def zxy:Nat→List PA→Nat→Nat→Option LA:=fun h _ n i=>match h,n,i with|28,0,999=>some ⟨[],[],[],[],[],[],[],[],[]⟩  |_,_,_=>none
def P89(O:Orc)(a b:DV):Option DA:=za (zc .leq b (I6 0)) fun c=>ifB c (some (S1 (I6 2))) (za (zc .gtr b (I6 1000000)) fun d=>ifB d (some (S1 (I6 2))) (za (zc .lss a (I6 (-1000000))) fun e=>ifB e (some (S1 (I6 2))) (za (zc .gtr a (I6 1000000)) fun f=>ifB f (some (S1 (I6 2))) (b1 (O 114 [S1 a]) fun g=>za (xx .u64 b) fun h=>b1 (O 113 [S1 g,S1 h]) fun j=>za (zc .neq j (U64 1)) fun k=>ifB k (some (S1 (I6 2))) (some (S1 (I6 0)))))))
theorem p89(O:Orc)(a b:DV):wM prog O yA (inl prog O yA zxy redI 6) an0 89 [SA [a,b]]=P89 O a b:=by kernel_rfl
def zxx:Nat→List PA→Nat→Nat→Option LA:=fun h _ n i=>match h,n,i with|28,0,999=>some ⟨[],[],[],[],[],[],[],[],[]⟩  |_,_,_=>none
def P90(O:Orc)(a b:DV):Option DA:=b1 (O 115 [S1 a,S1 b]) fun c=>za (zc .geq c (I6 0)) fun d=>some (S1 d)
theorem p90(O:Orc)(a0 a1:DV):wM prog O yA (inl prog O yA zxx redI 6) an0 90 [S1 a0,S1 a1]=P90 O a0 a1:=by kernel_rfl
def zxw:Nat→List PA→Nat→Nat→Option LA:=fun h _ n i=>match h,n,i with|28,0,999=>some ⟨[],[],[],[],[],[],[],[],[]⟩  |_,_,_=>none
def P91(_O:Orc)(a:DV):Option DA:=za (zc .lss a (I6 0)) fun b=>ifB b (some (S1 (.bool true))) (za (zc .gtr a (I6 1000000)) fun c=>some (S1 c))
theorem p91(O:Orc)(a0:DV):wM prog O yA (inl prog O yA zxw redI 6) an0 91 [S1 a0]=P91 O a0:=by kernel_rfl
def zBE:Nat→Option LA:=fun i=>match i with|0=>some ⟨[.slot 13],[],[],[],[],[],[.slot 2],[],[]⟩|_=>none
def zxv:Nat→List PA→Nat→Nat→Option LA:=fun h _ n i=>match h,n,i with|28,0,999=>some ⟨[],[],[],[],[],[],[],[],[]⟩  |_,_,_=>none
def zpz(O:Orc)(e a:DV)(c:List DV)(_j:List OC):Option PX:=za (zc .lss (zf c 0) e) fun f=>ifB f (za (yW 6 a (zf c 0)) fun b=>b1 (O 51 [SA [atD b 0,atD b 1,atD b 2,atD b 3,atD b 4,atD b 5]]) fun d=>za (zc .neq d (I6 0)) fun g=>ifB g (some (.ret,[d],[])) (za (zc .add (zf c 0) (I6 1)) fun h=>some (.normal,[h],[]))) (some (.exit 0,[],[]))
def P92(O:Orc)(a b c:DV):Option DA:=za (zY a) fun e=>za (zc .gtr e (I6 60)) fun f=>ifB f (some (S1 (I6 4))) (za (zY a) fun g=>z6 (zA (zpz O g a) [I6 0] []) (fun h _d _j=>bif Nat.beq h 0 then (b1 (O 75 [SA [b,c]]) fun k=>some (S1 k)) else(none)) (fun d _j=>some (S1 (zf d 0))))
theorem p92(O:Orc)(a b c:DV):wM prog O yA (inl prog O yA zxv redI 6) zBE 92 [SA [a,b,c]]=P92 O a b c:=by kernel_rfl
def zBD:Nat→Option LA:=fun i=>match i with|0=>some ⟨[.slot 12],[],[],[],[],[],[.slot 4],[],[]⟩|_=>none
def zxu:Nat→List PA→Nat→Nat→Option LA:=fun h _ n i=>match h,n,i with|28,0,999=>some ⟨[],[],[],[],[],[],[],[],[]⟩  |_,_,_=>none
def zpy(O:Orc)(e d a:DV)(c:List DV)(_p:List OC):Option PX:=za (zc .lss (zf c 0) e) fun f=>ifB f (za (yW 2 d (zf c 0)) fun b=>za (zc .lss (atD b 0) (I6 0)) fun g=>ifB g (some (.ret,[I6 10],[])) (za (zY a) fun h=>za (zc .geq (atD b 0) h) fun j=>ifB j (some (.ret,[I6 10],[])) (za (zc .lss (atD b 1) (I6 (-127))) fun k=>ifB k (some (.ret,[I6 3],[])) (za (zc .gtr (atD b 1) (I6 127)) fun l=>ifB l (some (.ret,[I6 3],[])) (za (vY 2 d none (some (zf c 0))) fun m=>b1 (O 116 [S1 m,SA [atD b 0,atD b 1]]) fun n=>ifB n (some (.ret,[I6 9],[])) (za (zc .add (zf c 0) (I6 1)) fun o=>some (.normal,[o],[]))))))) (some (.exit 0,[],[]))
def P93(O:Orc)(a _b _c b:DV):Option DA:=za (zY b) fun d=>za (zc .gtr d (I6 8)) fun e=>ifB e (some (S1 (I6 4))) (za (zY b) fun f=>z6 (zA (zpy O f b a) [I6 0] []) (fun g _c _h=>bif Nat.beq g 0 then (some (S1 (I6 0))) else(none)) (fun c _h=>some (S1 (zf c 0))))
theorem p93(O:Orc)(a b c a1:DV):wM prog O yA (inl prog O yA zxu redI 6) zBD 93 [SA [a,b,c],S1 a1]=P93 O a b c a1:=by kernel_rfl
def zBC:Nat→Option LA:=fun i=>match i with|0=>some ⟨[.slot 8],[],[],[],[],[],[.slot 4],[],[]⟩|_=>none
def zxt:Nat→List PA→Nat→Nat→Option LA:=fun h _ n i=>match h,n,i with|28,0,999=>some ⟨[],[],[],[],[],[],[],[],[]⟩  |_,_,_=>none
def zpx(O:Orc)(c d e:DV)(b:List DV)(_j:List OC):Option PX:=za (zc .lss (zf b 0) c) fun f=>ifB f (za (yW 5 d (zf b 0)) fun a=>b1 (zhR O e [SA [atD a 0,atD a 1,atD a 2,atD a 3,atD a 4]]) fun g=>ifB g (some (.ret,[zf b 0],[])) (za (zc .add (zf b 0) (I6 1)) fun h=>some (.normal,[h],[]))) (some (.exit 0,[],[]))
def P94(O:Orc)(a c:DV):Option DA:=za (zY a) fun d=>z6 (zA (zpx O d a c) [I6 0] []) (fun e _b _f=>bif Nat.beq e 0 then (some (S1 (I6 (-1)))) else(none)) (fun b _f=>some (S1 (zf b 0)))
theorem p94(O:Orc)(a0 a1:DV):wM prog O yA (inl prog O yA zxt redI 6) zBC 94 [S1 a0,S1 a1]=P94 O a0 a1:=by kernel_rfl
def zFB:Nat→Option LA:=fun i=>match i with|0=>some ⟨[.slot 17],[(.slot 7,2)],[],[],[],[(.slot 7,2)],[],[],[]⟩|_=>none
def zEY:Nat→List PA→Nat→Nat→Option LA:=fun h _ n i=>match h,n,i with|28,0,999=>some ⟨[],[],[],[],[],[],[],[],[]⟩|99,2,0=>some ⟨[.slot 3],[(.slot 0,2)],[],[],[],[(.slot 0,2)],[.slot 2],[],[]⟩|99,2,1=>some ⟨[.slot 5,.slot 3],[],[],[(2,2)],[.slot 3],[],[],[],[]⟩|_,_,_=>none
def zDq(b:Nat×Nat)(a:List DV)(c:List OC):Option PX:=za (zc .lss (zf a 0) (.int .i64 (.ofNat b.2))) fun g=>ifB g (za (jV b.2 (zf a 0)) fun h=>za (jW (zt c 0) (b.1+h)) fun d=>za (zc .sub (zf a 0) (I6 1)) fun j=>za (jV b.2 j) fun k=>za (jW (zt c 0) (b.1+k)) fun e=>za (zmq [1,1] [atD d 0,atD d 1] [atD e 0,atD e 1]) fun l=>ifB (.bool (!l)) (za (jV b.2 (zf a 0)) fun m=>za (jW (zt c 0) (b.1+m)) fun f=>za (xe (zt c 0) (zf a 1)) fun n=>za (zgo 2 (zt c 0) n 0 [atD f 0,atD f 1]) fun o=>za (zc .add (zf a 1) (I6 1)) fun p=>za (zc .add (zf a 0) (I6 1)) fun q=>some (.normal,[q,p],[o])) (za (zc .add (zf a 0) (I6 1)) fun r=>some (.normal,[r,zf a 1],[zt c 0]))) (some (.exit 2,[zf a 1],[zt c 0]))
def jn(b:List DV)(a:List OC):Option PX:=za (zc .lss (zf b 0) (I6 (Int.ofNat (xR (zt a 0))))) fun k=>ifB k (za (xe (zt a 0) (zf b 0)) fun l=>za (jW (zt a 0) l) fun g=>za (zc .sub (zf b 0) (I6 1)) fun m=>za (xe (zt a 0) m) fun n=>za (jW (zt a 0) n) fun h=>za (zmq [1,1] [atD g 0,atD g 1] [atD h 0,atD h 1]) fun o=>ifB (.bool o) (za (vwB (some (zf b 0)) none (xR (zt a 0))) fun p=>z6 (zA (zDq p) [I6 1,zf b 0] [zt a 0]) (fun f d c=>bif Nat.beq f 2 then (za (vwB (some (zf d 0)) none (xR (zt c 0))) fun e=>za (vwB none (some (zf d 0)) (xR (zms (zt c 0) e.1 e.2 [I6 0,I6 0]))) fun j=>some (.ret,[zqz 2 j.1 j.2 (mkL 2 (zms (zt c 0) e.1 e.2 [I6 0,I6 0]))],[])) else(bif Nat.beq f 1 then (za (zc .add (zf d 0) (I6 1)) fun q=>some (.normal,[q],[zt c 0])) else(some (.exit f,[],[zt c 0])))) (fun _d _c=>none)) (za (zc .add (zf b 0) (I6 1)) fun r=>some (.normal,[r],[zt a 0]))) (some (.exit 0,[],[zt a 0]))
def zD6(O:Orc)(e:DV)(f:List DV)(g h:DV)(a:List DV)(b:List OC):Option PX:=za (zc .lss (zf a 0) e) fun j=>ifB j (za (yW 2 (atD f 2) (zf a 0)) fun d=>bT [some 2,none] (O 118 [S1 g,SA [atD d 0,atD d 1],S1 h]) fun c=>ifB (dsO (zT c 1)) (gd (fits 16 (xR (zt b 0)+1)) (za (zc .add (zf a 0) (I6 1)) fun k=>some (.normal,[k],[some (zG (zt b 0)++[[atD (dsA (zT c 0)) 0,atD (dsA (zT c 0)) 1]])]))) (za (zc .add (zf a 0) (I6 1)) fun l=>some (.normal,[l],[zt b 0]))) (some (.exit 0,[],[zt b 0]))
def P96(O:Orc)(l a b c d f:DV):Option DA:=bA 3 (O 117 [SA [a,b,c,d],S1 f]) fun g=>za (zY (atD g 2)) fun m=>z6 (zA (zD6 O m g l f) [I6 0] [none]) (fun n _o h=>bif Nat.beq n 0 then (za (zA9 2 (zt h 0)) fun e=>za (zc .lss (I6 (Int.ofNat (xR e))) (I6 2)) fun p=>ifB p (some (S1 (mkL 2 e))) (z6 (zA jn [I6 1] [e]) (fun q _j k=>bif Nat.beq q 0 then (some (S1 (mkL 2 (zt k 0)))) else(none)) (fun j _k=>some (S1 (zf j 0))))) else(none)) (fun _o _h=>none)
theorem p96(O:Orc)(a0 a b c d a2:DV):wM prog O yA (inl prog O yA zEY redI 6) zFB 96 [S1 a0,SA [a,b,c,d],S1 a2]=P96 O a0 a b c d a2:=by kernel_rfl
def zyb:Nat→Option LA:=fun i=>match i with|0=>some ⟨[.slot 1,.slot 0],[],[],[],[.slot 0],[],[],[],[]⟩|_=>none
def zsA:Nat→List PA→Nat→Nat→Option LA:=fun h _ n i=>match h,n,i with|28,0,999=>some ⟨[],[],[],[],[],[],[],[],[]⟩  |_,_,_=>none
def zkZ(a:List DV)(_d:List OC):Option PX:=za (zc .gtr (zf a 0) (U64 0)) fun b=>ifB b (za (zc .rem (zf a 1) (zf a 0)) fun c=>some (.normal,[c,zf a 0],[])) (some (.exit 0,[zf a 1],[]))
def zAT(_O:Orc)(b c:DV):Option DA:=z6 (zA zkZ [c,b] []) (fun d a _e=>bif Nat.beq d 0 then (some (S1 (zf a 0))) else(none)) (fun _a _e=>none)
theorem zCa(O:Orc)(a0 a1:DV):wM prog O yA (inl prog O yA zsA redI 6) zyb 113 [S1 a0,S1 a1]=zAT O a0 a1:=by kernel_rfl
def zsz:Nat→List PA→Nat→Nat→Option LA:=fun h _ n i=>match h,n,i with|28,0,999=>some ⟨[],[],[],[],[],[],[],[],[]⟩  |_,_,_=>none
def zAS(_O:Orc)(a:DV):Option DA:=za (zc .lss a (I6 0)) fun b=>ifB b (za (xx .u64 a) fun c=>za (zv6 c) fun d=>some (S1 d)) (za (xx .u64 a) fun e=>some (S1 e))
theorem zB9(O:Orc)(a0:DV):wM prog O yA (inl prog O yA zsz redI 6) an0 114 [S1 a0]=zAS O a0:=by kernel_rfl
def zya:Nat→Option LA:=fun i=>match i with|0=>some ⟨[.slot 8],[],[],[],[],[],[.slot 4],[],[]⟩|_=>none
def zsy:Nat→List PA→Nat→Nat→Option LA:=fun h _ n i=>match h,n,i with|28,0,999=>some ⟨[],[],[],[],[],[],[],[],[]⟩  |_,_,_=>none
def zhK(O:Orc)(b c d:DV)(a:List DV)(_j:List OC):Option PX:=za (zc .lss (zf a 0) b) fun e=>ifB e (za (yW 1 c (zf a 0)) fun f=>b1 (zhR O d [S1 (atD f 0)]) fun g=>ifB g (some (.ret,[zf a 0],[])) (za (zc .add (zf a 0) (I6 1)) fun h=>some (.normal,[h],[]))) (some (.exit 0,[],[]))
def zAR(O:Orc)(a c:DV):Option DA:=za (zY a) fun d=>z6 (zA (zhK O d a c) [I6 0] []) (fun e _b _f=>bif Nat.beq e 0 then (some (S1 (I6 (-1)))) else(none)) (fun b _f=>some (S1 (zf b 0)))
theorem zB8(O:Orc)(a0 a1:DV):wM prog O yA (inl prog O yA zsy redI 6) zya 115 [S1 a0,S1 a1]=zAR O a0 a1:=by kernel_rfl
def zsx:Nat→List PA→Nat→Nat→Option LA:=fun h _ n i=>match h,n,i with|28,0,999=>some ⟨[],[],[],[],[],[],[],[],[]⟩  |_,_,_=>none
def zAQ(O:Orc)(c a b:DV):Option DA:=b1 (O 136 [S1 c,SA [a,b]]) fun d=>za (zc .geq d (I6 0)) fun e=>some (S1 e)
theorem zB7(O:Orc)(a0 a b:DV):wM prog O yA (inl prog O yA zsx redI 6) an0 116 [S1 a0,SA [a,b]]=zAQ O a0 a b:=by kernel_rfl
def zEB:Nat→List PA→Nat→Nat→Option LA:=fun h _ n i=>match h,n,i with|28,0,999=>some ⟨[],[],[],[],[],[],[],[],[]⟩  |_,_,_=>none
def zFy(O:Orc)(_a _b _c d c:DV):Option DA:=b1s (O 137 [S1 d,S1 (.fn 138 [[c]])]) fun b=>za (zc .lss b (I6 0)) fun e=>ifB e (some (SA [I6 0,I6 0,.nils])) (za (yW 3 d b) fun a=>some (SA [atD a 0,atD a 1,atD a 2]))
theorem zFP(O:Orc)(a b c d a1:DV):wM prog O yA (inl prog O yA zEB redI 6) an0 117 [SA [a,b,c,d],S1 a1]=zFy O a b c d a1:=by kernel_rfl
def zEA:Nat→List PA→Nat→Nat→Option LA:=fun h _ n i=>match h,n,i with|28,0,999=>some ⟨[],[],[],[],[],[],[],[],[]⟩  |_,_,_=>none
def zFx(_O:Orc)(d a b e:DV):Option DA:=za (zc .lss a (I6 0)) fun f=>ifB f (some (.tup [.agg [I6 0,I6 0],.one (.bool false)])) (za (zY d) fun g=>za (zc .geq a g) fun h=>ifB h (some (.tup [.agg [I6 0,I6 0],.one (.bool false)])) (za (zc .add e b) fun j=>za (yW 6 d a) fun k=>za (zc .sub j (atD k 4)) fun c=>za (zc .geq c (I6 0)) fun l=>ifB l (za (yW 6 d a) fun m=>za (zY (atD m 5)) fun n=>za (zc .lss c n) fun o=>some (.tup [.agg [a,c],.one o])) (some (.tup [.agg [a,c],.one (.bool false)]))))
theorem zFO(O:Orc)(a0 a b a2:DV):wM prog O yA (inl prog O yA zEA redI 6) an0 118 [S1 a0,SA [a,b],S1 a2]=zFx O a0 a b a2:=by kernel_rfl
def zx8:Nat→Option LA:=fun i=>match i with|0=>some ⟨[.slot 8],[],[],[],[],[],[.slot 4],[],[]⟩|_=>none
def zsw:Nat→List PA→Nat→Nat→Option LA:=fun h _ n i=>match h,n,i with|28,0,999=>some ⟨[],[],[],[],[],[],[],[],[]⟩  |_,_,_=>none
def zhH(e f a b:DV)(c:List DV)(_k:List OC):Option PX:=za (zc .lss (zf c 0) e) fun g=>ifB g (za (yW 2 f (zf c 0)) fun d=>za (zmq [1,1] [a,b] [atD d 0,atD d 1]) fun h=>ifB (.bool h) (some (.ret,[zf c 0],[])) (za (zc .add (zf c 0) (I6 1)) fun j=>some (.normal,[j],[]))) (some (.exit 0,[],[]))
def zAN(_O:Orc)(c a b:DV):Option DA:=za (zY c) fun e=>z6 (zA (zhH e c a b) [I6 0] []) (fun f _d _g=>bif Nat.beq f 0 then (some (S1 (I6 (-1)))) else(none)) (fun d _g=>some (S1 (zf d 0)))
theorem zB4(O:Orc)(a0 a b:DV):wM prog O yA (inl prog O yA zsw redI 6) zx8 136 [S1 a0,SA [a,b]]=zAN O a0 a b:=by kernel_rfl
def zFd:Nat→Option LA:=fun i=>match i with|0=>some ⟨[.slot 8],[],[],[],[],[],[.slot 4],[],[]⟩|_=>none
def zEz:Nat→List PA→Nat→Nat→Option LA:=fun h _ n i=>match h,n,i with|28,0,999=>some ⟨[],[],[],[],[],[],[],[],[]⟩  |_,_,_=>none
def zDx(O:Orc)(c d e:DV)(a:List DV)(_j:List OC):Option PX:=za (zc .lss (zf a 0) c) fun f=>ifB f (za (yW 3 d (zf a 0)) fun b=>b1 (zhR O e [SA [atD b 0,atD b 1,atD b 2]]) fun g=>ifB g (some (.ret,[zf a 0],[])) (za (zc .add (zf a 0) (I6 1)) fun h=>some (.normal,[h],[]))) (some (.exit 0,[],[]))
def zFw(O:Orc)(a c:DV):Option DA:=za (zY a) fun d=>z6 (zA (zDx O d a c) [I6 0] []) (fun e _b _f=>bif Nat.beq e 0 then (some (S1 (I6 (-1)))) else(none)) (fun b _f=>some (S1 (zf b 0)))
theorem zFN(O:Orc)(a0 a1:DV):wM prog O yA (inl prog O yA zEz redI 6) zFd 137 [S1 a0,S1 a1]=zFw O a0 a1:=by kernel_rfl
def zEy:Nat→List PA→Nat→Nat→Option LA:=fun h _ n i=>match h,n,i with|28,0,999=>some ⟨[],[],[],[],[],[],[],[],[]⟩  |_,_,_=>none
def zFv(_O:Orc)(a b _c d:DV):Option DA:=za (zc .leq a d) fun c=>ifB c (za (zc .leq d b) fun e=>some (S1 e)) (some (S1 (.bool false)))
theorem zFM(O:Orc)(a b c d:DV):wM prog O yA (inl prog O yA zEy redI 6) an0 138 [SA [a,b,c],S1 (.fp [d] 0)]=zFv O a b c d:=by kernel_rfl
def anT(g:Nat):Nat→Option LA:=match g with
 |4=>an4
 |6=>an6
 |7=>an7
 |8=>an8
 |10=>zBU
 |13=>zBR
 |14=>zFJ
 |15=>zFI
 |16=>zFH
 |17=>zFG
 |18=>zBQ
 |19=>zC3
 |25=>zBP
 |27=>zBO
 |41=>zFF
 |50=>zBM
 |53=>zBL
 |54=>zBK
 |57=>zBJ
 |58=>zBI
 |70=>zBG
 |76=>zBF
 |80=>zFE
 |82=>zFD
 |83=>zFC
 |92=>zBE
 |93=>zBD
 |94=>zBC
 |96=>zFB
 |113=>zyb
 |115=>zya
 |136=>zx8
 |137=>zFd
 |_=>an0
def zhS(g:Nat):Nat→List PA→Nat→Nat→Option LA:=match g with
 |4=>zFA
 |6=>zBA
 |7=>zBz
 |8=>zBy
 |10=>zx7
 |13=>zx4
 |14=>zFc
 |15=>zFb
 |16=>zFa
 |17=>zE9
 |18=>zx3
 |19=>zE8
 |25=>zx2
 |26=>zx1
 |27=>zx0
 |30=>zxZ
 |31=>zxY
 |38=>zxU
 |39=>zE7
 |40=>zE6
 |41=>zE5
 |47=>zxT
 |48=>zxS
 |49=>zxR
 |50=>zxQ
 |51=>zxP
 |53=>zxO
 |54=>zxN
 |55=>zxM
 |57=>zxL
 |58=>zxK
 |61=>zE4
 |62=>zE3
 |69=>zxI
 |70=>zxH
 |71=>zxG
 |72=>zxF
 |73=>zxE
 |74=>zxD
 |75=>zxC
 |76=>zxB
 |77=>zxA
 |78=>zxz
 |80=>zE2
 |81=>zE1
 |82=>zE0
 |83=>zEZ
 |89=>zxy
 |90=>zxx
 |91=>zxw
 |92=>zxv
 |93=>zxu
 |94=>zxt
 |96=>zEY
 |113=>zsA
 |114=>zsz
 |115=>zsy
 |116=>zsx
 |117=>zEB
 |118=>zEA
 |136=>zsw
 |137=>zEz
 |138=>zEy
 |_=>zAI
end Go.Proofs.Tryz.Kn
end
noncomputable section
namespace Go.Proofs.Tryz.Kc
open Go Go.CE Go.PE
abbrev prog:Program:=Tryz.prog
def yA:Nat→Bool:=fun g=>match g with|_=>false
abbrev redI:Red:=zwr
def an0:Nat→Option LA:=fun _=>none
def zAI:Nat→List PA→Nat→Nat→Option LA:=fun _ _ _ _=>none
abbrev pF(O:Orc)(an:Nat→Option LA)(g:Nat)(args:List DA):Option DA:=wM prog O yA (inl prog O yA zAI redI 1) an g args
def P98(O:Orc)(a b c d:DV):Option DA:=b1 (O 123 [S1 a,S1 c]) fun e=>b1 (O 123 [S1 b,S1 d]) fun f=>b1s (O 122 [S1 (.lst 1 [[e],[f]])]) fun g=>some (S1 g)
theorem p98(O:Orc)(a b c d:DV):pF O an0 98 [SA [a,b],SA [c,d]]=P98 O a b c d:=by kernel_rfl
def zAM(O:Orc)(a b c d:DV):Option DA:=b1 (O 123 [S1 a,S1 c]) fun e=>b1 (O 123 [S1 b,S1 d]) fun f=>b1s (O 122 [S1 (.lst 1 [[e],[f]])]) fun g=>some (S1 g)
theorem zB3(O:Orc)(a b c d:DV):pF O an0 139 [SA [a,b],SA [c,d]]=zAM O a b c d:=by kernel_rfl
def zx9:Nat→Option LA:=fun i=>match i with|0=>some ⟨[.slot 8],[],[],[],[],[],[.slot 2],[],[]⟩|_=>none
def zeL(c d:DV)(a:List DV)(_h:List OC):Option PX:=za (zc .lss (zf a 0) c) fun e=>ifB e (za (yW 1 d (zf a 0)) fun b=>za (zc .neq (atD b 0) (I6 0)) fun f=>ifB f (some (.ret,[atD b 0],[])) (za (zc .add (zf a 0) (I6 1)) fun g=>some (.normal,[g],[]))) (some (.exit 0,[],[]))
def zAP(_O:Orc)(a:DV):Option DA:=za (zY a) fun c=>z6 (zA (zeL c a) [I6 0] []) (fun d _b _e=>bif Nat.beq d 0 then (some (S1 (I6 0))) else(none)) (fun b _e=>some (S1 (zf b 0)))
theorem zB6(O:Orc)(a0:DV):pF O zx9 122 [S1 a0]=zAP O a0:=by kernel_rfl
def zAO(O:Orc)(a b:DV):Option DA:=b1 (O 150 [S1 a]) fun d=>b1 (O 150 [S1 b]) fun c=>ifB d (ifB c (some (S1 (I6 0))) (some (S1 (I6 (-1))))) (ifB c (some (S1 (I6 1))) (za (zc .lss a b) fun e=>ifB e (some (S1 (I6 (-1)))) (za (zc .gtr a b) fun f=>ifB f (some (S1 (I6 1))) (some (S1 (I6 0))))))
theorem zB5(O:Orc)(a0 a1:DV):pF O an0 123 [S1 a0,S1 a1]=zAO O a0 a1:=by kernel_rfl
def zAL(_O:Orc)(a:DV):Option DA:=za (zc .neq a a) fun b=>some (S1 b)
theorem zB2(O:Orc)(a0:DV):pF O an0 150 [S1 a0]=zAL O a0:=by kernel_rfl
def zAU(O:Orc)(a b c d:DV):Option DA:=b1 (O 123 [S1 a,S1 c]) fun e=>b1 (O 123 [S1 b,S1 d]) fun f=>b1s (O 122 [S1 (.lst 1 [[e],[f]])]) fun g=>some (S1 g)
theorem zCb(O:Orc)(a b c d:DV):pF O an0 102 [SA [a,b],SA [c,d]]=zAU O a b c d:=by kernel_rfl
def anT(g:Nat):Nat→Option LA:=match g with
 |122=>zx9
 |_=>an0
def zhS(g:Nat):Nat→List PA→Nat→Nat→Option LA:=match g with
 |_=>zAI
theorem d98{sums:List CE.Sum}{B:Orc}{k:Nat}(a b c d:DV)(hB:B 98 [SA [a,b],SA [c,d]]=none)(hs:sums.all (fun s=>!Nat.beq 98 s.g)=true):deep prog sums B anT yA zhS redI 1 (k+1) 98 [SA [a,b],SA [c,d]]=P98 (deep prog sums B anT yA zhS redI 1 k) a b c d:=(uk hB hs).trans (p98 _ _ _ _ _)
theorem d139{sums:List CE.Sum}{B:Orc}{k:Nat}(a b c d:DV)(hB:B 139 [SA [a,b],SA [c,d]]=none)(hs:sums.all (fun s=>!Nat.beq 139 s.g)=true):deep prog sums B anT yA zhS redI 1 (k+1) 139 [SA [a,b],SA [c,d]]=zAM (deep prog sums B anT yA zhS redI 1 k) a b c d:=(uk hB hs).trans (zB3 _ _ _ _ _)
theorem d122{sums:List CE.Sum}{B:Orc}{k:Nat}(a0:DV)(hB:B 122 [S1 a0]=none)(hs:sums.all (fun s=>!Nat.beq 122 s.g)=true):deep prog sums B anT yA zhS redI 1 (k+1) 122 [S1 a0]=zAP (deep prog sums B anT yA zhS redI 1 k) a0:=(uk hB hs).trans (zB6 _ _)
theorem d123{sums:List CE.Sum}{B:Orc}{k:Nat}(a0 a1:DV)(hB:B 123 [S1 a0,S1 a1]=none)(hs:sums.all (fun s=>!Nat.beq 123 s.g)=true):deep prog sums B anT yA zhS redI 1 (k+1) 123 [S1 a0,S1 a1]=zAO (deep prog sums B anT yA zhS redI 1 k) a0 a1:=(uk hB hs).trans (zB5 _ _ _)
theorem d150{sums:List CE.Sum}{B:Orc}{k:Nat}(a0:DV)(hB:B 150 [S1 a0]=none)(hs:sums.all (fun s=>!Nat.beq 150 s.g)=true):deep prog sums B anT yA zhS redI 1 (k+1) 150 [S1 a0]=zAL (deep prog sums B anT yA zhS redI 1 k) a0:=(uk hB hs).trans (zB2 _ _)
theorem d102{sums:List CE.Sum}{B:Orc}{k:Nat}(a b c d:DV)(hB:B 102 [SA [a,b],SA [c,d]]=none)(hs:sums.all (fun s=>!Nat.beq 102 s.g)=true):deep prog sums B anT yA zhS redI 1 (k+1) 102 [SA [a,b],SA [c,d]]=zAU (deep prog sums B anT yA zhS redI 1 k) a b c d:=(uk hB hs).trans (zCb _ _ _ _ _)
end Go.Proofs.Tryz.Kc
end
section
namespace Go.Proofs.Tryz.Kn
open Go Go.CE Go.PE
theorem zv2{sums:List CE.Sum}:zrL yA redI (fun n=>zN (zQ prog) (cFs (yP prog)) sums redI.s n):=by intro N g g' l l' vs e;cases e
end Go.Proofs.Tryz.Kn
end
section
namespace Go.Proofs.Tryz.Kn
open Go Go.Shelf
def layR:Go.Shelf.Ren:=⟨fun|6=>97|15=>121|14=>120|28=>148|29=>149|20=>140|21=>141|22=>142|23=>143|24=>144|25=>145|26=>146|27=>147|46=>168|47=>169|48=>170|49=>171|50=>172|57=>184|n=>n,fun|22=>117|24=>68|25=>182|3=>3|39=>113|0=>0|53=>240|55=>28|4=>4|46=>234|45=>233|50=>196|5=>5|9=>9|66=>253|70=>257|76=>271|77=>272|n=>n,fun|n=>n⟩
theorem layS:SlLaysF0.n6 Tryz.prog layR where
 mixed:=by kernel_rfl
 f6:=⟨Tryz.f97.name,by kernel_rfl,Tryz.func97.trans (congrArg some (by kernel_rfl))⟩
 f14:=⟨Tryz.f120.name,by kernel_rfl,Tryz.func120.trans (congrArg some (by kernel_rfl))⟩
 f15:=Tryz.func121.trans (congrArg some (by kernel_rfl))
 f20:=⟨Tryz.f140.name,by kernel_rfl,Tryz.func140.trans (congrArg some (by kernel_rfl))⟩
 f21:=⟨Tryz.f141.name,by kernel_rfl,Tryz.func141.trans (congrArg some (by kernel_rfl))⟩
 f22:=⟨Tryz.f142.name,by kernel_rfl,Tryz.func142.trans (congrArg some (by kernel_rfl))⟩
 f23:=⟨Tryz.f143.name,by kernel_rfl,Tryz.func143.trans (congrArg some (by kernel_rfl))⟩
 f24:=⟨Tryz.f144.name,by kernel_rfl,Tryz.func144.trans (congrArg some (by kernel_rfl))⟩
 f25:=⟨Tryz.f145.name,by kernel_rfl,Tryz.func145.trans (congrArg some (by kernel_rfl))⟩
 f26:=⟨Tryz.f146.name,by kernel_rfl,Tryz.func146.trans (congrArg some (by kernel_rfl))⟩
 f27:=⟨Tryz.f147.name,by kernel_rfl,Tryz.func147.trans (congrArg some (by kernel_rfl))⟩
 f28:=Tryz.func148.trans (congrArg some (by kernel_rfl))
 f29:=Tryz.func149.trans (congrArg some (by kernel_rfl))
 f46:=⟨Tryz.f168.name,by kernel_rfl,Tryz.func168.trans (congrArg some (by kernel_rfl))⟩
 f47:=Tryz.func169.trans (congrArg some (by kernel_rfl))
 f48:=Tryz.func170.trans (congrArg some (by kernel_rfl))
 f49:=⟨Tryz.f171.name,by kernel_rfl,Tryz.func171.trans (congrArg some (by kernel_rfl))⟩
 f50:=⟨Tryz.f172.name,by kernel_rfl,Tryz.func172.trans (congrArg some (by kernel_rfl))⟩
 f57:=⟨Tryz.f184.name,by kernel_rfl,Tryz.func184.trans (congrArg some (by kernel_rfl))⟩
 t0:=Tryz.underlying0
 a0:=Tryz.isAgg0
 z0:=Tryz.sizeOf0
 v0:=Tryz.zeroValue0
 t3:=Tryz.underlying3
 a3:=Tryz.isAgg3
 z3:=Tryz.sizeOf3
 v3:=Tryz.zeroValue3
 t4:=Tryz.underlying4
 a4:=Tryz.isAgg4
 z4:=Tryz.sizeOf4
 v4:=Tryz.zeroValue4
 t5:=Tryz.underlying5
 a5:=Tryz.isAgg5
 z5:=Tryz.sizeOf5
 v5:=Tryz.zeroValue5
 t9:=Tryz.underlying9
 a9:=Tryz.isAgg9
 z9:=Tryz.sizeOf9
 v9:=Tryz.zeroValue9
 t22:=Tryz.underlying117
 a22:=Tryz.isAgg117
 z22:=Tryz.sizeOf117
 v22:=Tryz.zeroValue117
 t25:=Tryz.underlying182
 a25:=Tryz.isAgg182
 z25:=Tryz.sizeOf182
 v25:=Tryz.zeroValue182
 t39:=Tryz.underlying113
 a39:=Tryz.isAgg113
 z39:=Tryz.sizeOf113
 v39:=Tryz.zeroValue113
 t45:=Tryz.underlying233
 a45:=Tryz.isAgg233
 z45:=Tryz.sizeOf233
 v45:=Tryz.zeroValue233
 t46:=Tryz.underlying234
 a46:=Tryz.isAgg234
 z46:=Tryz.sizeOf234
 v46:=Tryz.zeroValue234
 t50:=Tryz.underlying196
 a50:=Tryz.isAgg196
 z50:=Tryz.sizeOf196
 v50:=Tryz.zeroValue196
 t53:=Tryz.underlying240
 a53:=Tryz.isAgg240
 z53:=Tryz.sizeOf240
 v53:=Tryz.zeroValue240
 t55:=Tryz.underlying28
 a55:=Tryz.isAgg28
 z55:=Tryz.sizeOf28
 v55:=Tryz.zeroValue28
 t66:=Tryz.underlying253
 a66:=Tryz.isAgg253
 z66:=Tryz.sizeOf253
 v66:=Tryz.zeroValue253
 t70:=Tryz.underlying257
 a70:=Tryz.isAgg257
 z70:=Tryz.sizeOf257
 v70:=Tryz.zeroValue257
 t76:=Tryz.underlying271
 a76:=Tryz.isAgg271
 z76:=Tryz.sizeOf271
 v76:=Tryz.zeroValue271
 t77:=Tryz.underlying272
 a77:=Tryz.isAgg272
 z77:=Tryz.sizeOf272
 v77:=Tryz.zeroValue272
end Go.Proofs.Tryz.Kn
end
section
namespace Go.Proofs.Tryz.Kn
open Go Go.Shelf
def layR2:Go.Shelf.Ren:=⟨fun|6=>101|15=>121|14=>124|28=>148|29=>149|20=>151|21=>152|22=>153|23=>154|24=>155|25=>156|26=>157|27=>158|46=>173|47=>169|48=>170|49=>174|50=>175|57=>185|n=>n,fun|22=>144|24=>116|25=>187|3=>3|39=>113|0=>0|53=>240|55=>28|4=>4|46=>234|45=>233|50=>196|5=>5|9=>9|66=>253|70=>257|76=>271|77=>272|n=>n,fun|n=>n⟩
theorem layS2:SlLaysF0.n6 Tryz.prog layR2 where
 mixed:=by kernel_rfl
 f6:=⟨Tryz.f101.name,by kernel_rfl,Tryz.func101.trans (congrArg some (by kernel_rfl))⟩
 f14:=⟨Tryz.f124.name,by kernel_rfl,Tryz.func124.trans (congrArg some (by kernel_rfl))⟩
 f15:=Tryz.func121.trans (congrArg some (by kernel_rfl))
 f20:=⟨Tryz.f151.name,by kernel_rfl,Tryz.func151.trans (congrArg some (by kernel_rfl))⟩
 f21:=⟨Tryz.f152.name,by kernel_rfl,Tryz.func152.trans (congrArg some (by kernel_rfl))⟩
 f22:=⟨Tryz.f153.name,by kernel_rfl,Tryz.func153.trans (congrArg some (by kernel_rfl))⟩
 f23:=⟨Tryz.f154.name,by kernel_rfl,Tryz.func154.trans (congrArg some (by kernel_rfl))⟩
 f24:=⟨Tryz.f155.name,by kernel_rfl,Tryz.func155.trans (congrArg some (by kernel_rfl))⟩
 f25:=⟨Tryz.f156.name,by kernel_rfl,Tryz.func156.trans (congrArg some (by kernel_rfl))⟩
 f26:=⟨Tryz.f157.name,by kernel_rfl,Tryz.func157.trans (congrArg some (by kernel_rfl))⟩
 f27:=⟨Tryz.f158.name,by kernel_rfl,Tryz.func158.trans (congrArg some (by kernel_rfl))⟩
 f28:=Tryz.func148.trans (congrArg some (by kernel_rfl))
 f29:=Tryz.func149.trans (congrArg some (by kernel_rfl))
 f46:=⟨Tryz.f173.name,by kernel_rfl,Tryz.func173.trans (congrArg some (by kernel_rfl))⟩
 f47:=Tryz.func169.trans (congrArg some (by kernel_rfl))
 f48:=Tryz.func170.trans (congrArg some (by kernel_rfl))
 f49:=⟨Tryz.f174.name,by kernel_rfl,Tryz.func174.trans (congrArg some (by kernel_rfl))⟩
 f50:=⟨Tryz.f175.name,by kernel_rfl,Tryz.func175.trans (congrArg some (by kernel_rfl))⟩
 f57:=⟨Tryz.f185.name,by kernel_rfl,Tryz.func185.trans (congrArg some (by kernel_rfl))⟩
 t0:=Tryz.underlying0
 a0:=Tryz.isAgg0
 z0:=Tryz.sizeOf0
 v0:=Tryz.zeroValue0
 t3:=Tryz.underlying3
 a3:=Tryz.isAgg3
 z3:=Tryz.sizeOf3
 v3:=Tryz.zeroValue3
 t4:=Tryz.underlying4
 a4:=Tryz.isAgg4
 z4:=Tryz.sizeOf4
 v4:=Tryz.zeroValue4
 t5:=Tryz.underlying5
 a5:=Tryz.isAgg5
 z5:=Tryz.sizeOf5
 v5:=Tryz.zeroValue5
 t9:=Tryz.underlying9
 a9:=Tryz.isAgg9
 z9:=Tryz.sizeOf9
 v9:=Tryz.zeroValue9
 t22:=Tryz.underlying144
 a22:=Tryz.isAgg144
 z22:=Tryz.sizeOf144
 v22:=Tryz.zeroValue144
 t25:=Tryz.underlying187
 a25:=Tryz.isAgg187
 z25:=Tryz.sizeOf187
 v25:=Tryz.zeroValue187
 t39:=Tryz.underlying113
 a39:=Tryz.isAgg113
 z39:=Tryz.sizeOf113
 v39:=Tryz.zeroValue113
 t45:=Tryz.underlying233
 a45:=Tryz.isAgg233
 z45:=Tryz.sizeOf233
 v45:=Tryz.zeroValue233
 t46:=Tryz.underlying234
 a46:=Tryz.isAgg234
 z46:=Tryz.sizeOf234
 v46:=Tryz.zeroValue234
 t50:=Tryz.underlying196
 a50:=Tryz.isAgg196
 z50:=Tryz.sizeOf196
 v50:=Tryz.zeroValue196
 t53:=Tryz.underlying240
 a53:=Tryz.isAgg240
 z53:=Tryz.sizeOf240
 v53:=Tryz.zeroValue240
 t55:=Tryz.underlying28
 a55:=Tryz.isAgg28
 z55:=Tryz.sizeOf28
 v55:=Tryz.zeroValue28
 t66:=Tryz.underlying253
 a66:=Tryz.isAgg253
 z66:=Tryz.sizeOf253
 v66:=Tryz.zeroValue253
 t70:=Tryz.underlying257
 a70:=Tryz.isAgg257
 z70:=Tryz.sizeOf257
 v70:=Tryz.zeroValue257
 t76:=Tryz.underlying271
 a76:=Tryz.isAgg271
 z76:=Tryz.sizeOf271
 v76:=Tryz.zeroValue271
 t77:=Tryz.underlying272
 a77:=Tryz.isAgg272
 z77:=Tryz.sizeOf272
 v77:=Tryz.zeroValue272
end Go.Proofs.Tryz.Kn
end
noncomputable section
namespace Go.Proofs.Tryz.Kc
open Go Go.CE Go.PE
def D0(k:Nat):Orc:=deep prog [] (fun _ _=>none) anT yA zhS redI 1 k
theorem zA4(k:Nat):jR (D0 k) (fun n=>zN (zQ prog) (cFs (yP prog)) [] redI.s n):=zf4 zqS (fun g hg=>by cases hg) (fun g hg=>by cases hg) (fun g args res e=>by cases e) k
theorem zA6(k:Nat)(a:Int):D0 (k+1) 150 [S1 (I6 a)]=some (S1 (Bo false)):=by refine (d150 _ rfl rfl).trans ?_;simp_all[zAL]
def zmr(a b:Int):Int:=if a<b then -1 else if b<a then 1 else 0
theorem zu9(k:Nat)(a b:Int):D0 (k+2) 123 [S1 (I6 a),S1 (I6 b)]=some (S1 (I6 (zmr a b))):=by
 refine (d123 _ _ rfl rfl).trans ?_;have h1:=zA6 k a;have h2:=zA6 k b;unfold D0 at h1 h2;unfold zAO zmr;simp only[h1,h2,zX,zn,Yzh,if_false,zj,zb,yE,YzD]
 grind
theorem zzn(k:Nat)(p q:Int):D0 (k+1) 122 [S1 (.lst 1 [[I6 p],[I6 q]])]=some (S1 (I6 (if p=0 then q else p))):=by
 refine (d122 _ rfl rfl).trans ?_;unfold zAP;have i0:yW 1 (.lst 1 [[I6 p],[I6 q]]) (I6 0)=some [I6 p]:=rfl;have i1:yW 1 (.lst 1 [[I6 p],[I6 q]]) (I6 1)=some [I6 q]:=rfl;have l0:zY (.lst 1 [[I6 p],[I6 q]])=some (I6 2):=rfl;have a0:zc .add (I6 0) (I6 1)=some (I6 1):=rfl;have a1:zc .add (I6 1) (I6 1)=some (I6 2):=rfl;have b0:zeL (I6 2) (.lst 1 [[I6 p],[I6 q]]) [I6 0] []=some (if p=0 then(.normal,[I6 1],[]) else(.ret,[I6 p],[])):=by grind[zeL,zz,zj,zb,zn,xE,zU]
 have b1':zeL (I6 2) (.lst 1 [[I6 p],[I6 q]]) [I6 1] []=some (if q=0 then(.normal,[I6 2],[]) else(.ret,[I6 q],[])):=by grind[zeL,zz,zj,zb,zn,xE,zU]
 have b2:zeL (I6 2) (.lst 1 [[I6 p],[I6 q]]) [I6 2] []=some (.exit 0,[],[]):=by rfl
 simp only[l0,zb];by_cases h:p=0
 ·rw[Yzd h]at b0 ⊢;rw[zH b0];by_cases h2:q=0
  ·rw[Yzd h2]at b1';rw[zH b1',zu b2,h2];rfl
  ·rw[Yzb h2]at b1';rw[zB b1'];rfl
 ·rw[Yzb h]at b0 ⊢;rw[zB b0];rfl
theorem zi1(a b c d:Int):(if zmr a c=0 then zmr b d else zmr a c)=zpU [a,b] [c,d]:=by grind[zmr,zpU,ltZ]
theorem u98(k:Nat)(a b c d:Int):D0 (k+3) 98 [SA [I6 a,I6 b],SA [I6 c,I6 d]]=some (S1 (I6 (zpU [a,b] [c,d]))):=by refine (d98 _ _ _ _ rfl rfl).trans ?_;have h1:=zu9 k a c;have h2:=zu9 k b d;have h3:=zzn (k+1) (zmr a c) (zmr b d);simp_all[D0,P98,zps,zi1]
theorem zBX(k:Nat)(a b c d:Int):D0 (k+3) 139 [SA [I6 a,I6 b],SA [I6 c,I6 d]]=some (S1 (I6 (zpU [a,b] [c,d]))):=by refine (d139 _ _ _ _ rfl rfl).trans ?_;have h1:=zu9 k a c;have h2:=zu9 k b d;have h3:=zzn (k+1) (zmr a c) (zmr b d);simp_all[D0,zAM,zps,zi1]
theorem zBY(k:Nat)(a b c d:Int):D0 (k+3) 102 [SA [I6 a,I6 b],SA [I6 c,I6 d]]=some (S1 (I6 (zpU [a,b] [c,d]))):=by refine (d102 _ _ _ _ rfl rfl).trans ?_;have h1:=zu9 k a c;have h2:=zu9 k b d;have h3:=zzn (k+1) (zmr a c) (zmr b d);simp_all[D0,zAU,zps,zi1]
theorem zi2(k:Nat):Cmp k zpU:=fun x y _ _=>by grind[zpU]
theorem zrE{fz:BN→Prop}{h:Za}{v:Zb}{a:Int}(hv:RepA fz h v (S1 (I6 a))):v=.s (.one (.int .i64 a)):=by
 obtain⟨v',hv',h1⟩:=RepA.inv hv;subst hv';cases v' with
 |agg l=>trivial
 |one c=>rw[Rep.scal h1 rfl]
theorem zo7{f:Nat}{a b c d r:Int}(e:D0 3 f [SA [I6 a,I6 b],SA [I6 c,I6 d]]=some (S1 (I6 r))):∃call h2,yU prog call∧call (.inl f) [.s (.agg ([a,b].map (Zc.int .i64))),.s (.agg ([c,d].map (Zc.int .i64)))] ⟨.z,.nil⟩=some (.s (.one (.int .i64 r)),h2):=by
 have hnil:∀b,(Tr.nil:Tr Zf).get b=none:=by simp
 obtain⟨⟨v,h2⟩,⟨_,_,hv⟩,N,hN⟩:=zA4 3 f _ _ e (fun _=>False) ⟨.z,.nil⟩ [.s (.agg ([a,b].map (Zc.int .i64))),.s (.agg ([c,d].map (Zc.int .i64)))] (fun b o hb=>by grind) (fun b hb=>hb.elim) ⟨zch _ _ [a,b],zch _ _ [c,d],trivial⟩;refine⟨_,h2,zgb (sums:=[]) (ze9 prog) (fun s hs=>by cases hs) (zqR (P:=prog)) N,?_⟩;refine (hN N (LzB _)).trans ?_
 grind[zrE]
theorem zvc{x:List Int}(h:zhB 2 x):∃a b,x=[a,b]∧-2305843009213693952≤a∧a≤2305843009213693952∧-2305843009213693952≤b∧b≤2305843009213693952:=by
 match x,h.1 with
 | [a,b],_=>
  have:=h.2;unfold inZ at this
  grind
theorem zrC(f:Nat)(hf:f∈[98,139]):∃cf,Cmp 2 cf∧∀x y:List Int,zhB 2 x→zhB 2 y→∃call h2,yU prog call∧call (.inl f) [.s (.agg (x.map (Zc.int .i64))),.s (.agg (y.map (Zc.int .i64)))] ⟨.z,.nil⟩=some (.s (.one (.int .i64 (cf x y))),h2):=by
 simp only[Yzw,Yzt,or_false]at hf;rcases hf with rfl|rfl
 ·refine⟨zpU,zi2 2,fun x y hx hy=>?_⟩;obtain⟨a,b,rfl,_⟩:=zvc hx;obtain⟨c,d,rfl,_⟩:=zvc hy;exact zo7 (u98 0 a b c d)
 ·refine⟨zpU,zi2 2,fun x y hx hy=>?_⟩;obtain⟨a,b,rfl,_⟩:=zvc hx;obtain⟨c,d,rfl,_⟩:=zvc hy;exact zo7 (zBX 0 a b c d)
theorem zo8(f:Nat)(hf:f∈[102]):∃cf,Cmp 2 cf∧∀x y:List Int,zhB 2 x→zhB 2 y→∃call h2,yU prog call∧call (.inl f) [.s (.agg (x.map (Zc.int .i64))),.s (.agg (y.map (Zc.int .i64)))] ⟨.z,.nil⟩=some (.s (.one (.int .i64 (cf x y))),h2):=by simp only[Yzw,Yzt,or_false]at hf;subst hf;refine⟨zpU,zi2 2,fun x y hx hy=>?_⟩;obtain⟨a,b,rfl,_⟩:=zvc hx;obtain⟨c,d,rfl,_⟩:=zvc hy;exact zo7 (zBY 0 a b c d)
def zul:Res→Bool
 |some (.tup [],_)=>true
 |_=>false
theorem zoD{r:Res}(h:zul r=true):∃h2,r=some (.tup [],h2):=by
 unfold zul at h
 grind
def zCe(g f:Nat):Res:=zfV (zQ prog) (cFs (yP prog)) [] 100000 (.inl g) [.s (.one .nils),.s (.one (.fn f []))] ⟨.z,.nil⟩
theorem znZ{g f:Nat}(h:zul (zCe g f)=true):∃call h2,yU prog call∧call (.inl g) [.s (.one .nils),.s (.one (.fn f []))] ⟨.z,.nil⟩=some (.tup [],h2):=by obtain⟨h2,e⟩:=zoD h;exact⟨_,h2,zgc (sums:=[]) (ze9 prog) (fun s hs=>by cases hs) 100000,e⟩
theorem zqU(f:Nat)(hf:f∈[98,139]):∃call h2,yU prog call∧call (.inl 97) [.s (.one .nils),.s (.one (.fn f []))] ⟨.z,.nil⟩=some (.tup [],h2):=by
 simp only[Yzw,Yzt,or_false]at hf;rcases hf with rfl|rfl
 ·exact znZ (by kernel_rfl)
 ·exact znZ (by kernel_rfl)
theorem zn0(f:Nat)(hf:f∈[102]):∃call h2,yU prog call∧call (.inl 101) [.s (.one .nils),.s (.one (.fn f []))] ⟨.z,.nil⟩=some (.tup [],h2):=by simp only[Yzw,Yzt,or_false]at hf;subst hf;exact znZ (by kernel_rfl)
def zA8:Srt:=⟨[98,139],2⟩
def zBa:Srt:=⟨[102],2⟩
theorem srtP_ok:zhA prog 97 zA8:=zrZ (ρ:=Kn.layR) (t:=zA8) Kn.layS (fun w=>by kernel_rfl) (fun w=>by kernel_rfl) zrC zqU
theorem srtC_ok:zhA prog 101 zBa:=zrZ (ρ:=Kn.layR2) (t:=zBa) Kn.layS2 (fun w=>by kernel_rfl) (fun w=>by kernel_rfl) zo8 zn0
end Go.Proofs.Tryz.Kc
end
noncomputable section
namespace Go.Proofs.Tryz.Kn
open Go Go.CE Go.PE
def zuj:List CE.Sum:=[kSum31]
theorem zrh:∀s∈zuj,za4 Tryz.prog s:=by
 intro s hs;simp only[zuj,Yzw,Yzt,or_false]at hs;rcases hs with rfl
 ·exact zoz
def bSums:List CE.Sum:=zuj++shSums
theorem zrG:∀s∈bSums,za4 Tryz.prog s:=zrD zrh zm2
def bIds:List Nat:=[5,85,86,87,88]
theorem zpr:bSums.all (fun s=>bIds.any (Nat.beq s.g))=true:=by kernel_rfl
theorem zdL{g:Nat}(h:bIds.any (Nat.beq g)=false):∀s∈bSums,Nat.beq g s.g=false:=by
 intro s hs;have h1:=YzL.1 zpr s hs;cases hb:Nat.beq g s.g with
 |false=>rfl
 |true=>rw[←Lz1 hb,h]at h1;cases h1
theorem zmi{g:Nat}(h:bIds.any (Nat.beq g)=false):bSums.all (fun s=>!Nat.beq g s.g)=true:=
 YzL.2 fun s hs=>by rw[zdL h s hs];rfl
def B:Orc:=zva bIds bSums
theorem zyJ{g:Nat}(h:bIds.any (Nat.beq g)=false)(args:List DA):B g args=none:=by unfold B zva;rw[h];rfl
theorem zwS{g:Nat}(h:([85,86,87,88]:List Nat).any (Nat.beq g)=true):bIds.any (Nat.beq g)=true:=by obtain⟨n,hn,e⟩:=List.any_eq_true.1 h;refine List.any_eq_true.2 ⟨n,?_,e⟩;simp only[bIds,Yzw,Yzt,or_false]at hn ⊢;omega
theorem zC2{g:Nat}(h:([85,86,87,88]:List Nat).any (Nat.beq g)=true)(args:List DA):B g args=zva bIds bSums g args:=by rfl
def D(k:Nat):Orc:=deep prog bSums B anT yA zhS redI 6 k
theorem dF{k g:Nat}{args:List DA}{x:Option DA}(h:bIds.any (Nat.beq g)=false)(hr:(redI.s g).isNone=true)(e:wM prog (D k) yA (inl prog (D k) yA (zhS g) redI 6) (anT g) g args=x):D (k+1) g args=x:=(uk (zyJ h _) (zmi h) hr).trans e
theorem zqe:∀g,yA g=true→∀s∈bSums,Nat.beq g s.g=false:=by
 intro g hg;refine zdL ?_;unfold yA at hg;split at hg
 ·rfl
 ·rfl
 ·rfl
 ·rfl
 ·rfl
 ·rfl
 ·rfl
 ·rfl
 ·rfl
 ·rfl
 ·rfl
 ·rfl
 ·rfl
 ·rfl
 ·rfl
 ·rfl
 ·rfl
 ·rfl
 ·cases hg
theorem zsX:∀g,yA g=true→Nat.ble zhQ g=false:=by
 intro g hg;unfold yA at hg;split at hg
 ·rfl
 ·rfl
 ·rfl
 ·rfl
 ·rfl
 ·rfl
 ·rfl
 ·rfl
 ·rfl
 ·rfl
 ·rfl
 ·rfl
 ·rfl
 ·rfl
 ·rfl
 ·rfl
 ·rfl
 ·rfl
 ·cases hg
theorem zCW(k:Nat):jR (D k) (fun n=>zN (zQ prog) (cFs (yP prog)) bSums redI.s n):=zf4 zv2 zqe zsX (zsZ (by kernel_rfl)) k
theorem zs1:∀g t,redI.s g=some t→zhA prog g t:=by
 intro g t e;unfold redI at e;simp only at e;split at e
 ·cases e;exact Kc.srtP_ok
 ·cases e;exact Kc.srtC_ok
 ·cases e
theorem D5(k:Nat):D k 5 []=some (S1 (.bool true)):=zhk (by kernel_rfl)
theorem D4(k:Nat)(a b c d f h j m r s w y z a2:DV):D (k+1) 4 [SA [a,b,c],SA [d,f,h,j,m,r,s,w,y,z],S1 a2]=P4 (D k) a b c d f h j m r s w y z a2:=dF rfl rfl (p4 ..)
theorem D6(k:Nat)(a b c:DV):D (k+1) 6 [SA [a,b,c]]=P6 (D k) a b c:=dF rfl rfl (p6 ..)
theorem D7(k:Nat)(a b c:DV):D (k+1) 7 [SA [a,b,c]]=P7 (D k) a b c:=dF rfl rfl (p7 ..)
theorem D8(k:Nat)(a b c d f h j m r s w:DV):D (k+1) 8 [SA [a,b,c,d],SA [f,h,j,m,r,s,w]]=P8 (D k) a b c d f h j m r s w:=dF rfl rfl (p8 ..)
theorem D10(k:Nat)(a b c d f h j:DV):D (k+1) 10 [SA [a,b,c,d],SA [f,h,j]]=P10 (D k) a b c d f h j:=dF rfl rfl (p10 ..)
theorem D13(k:Nat)(a b c d f h:DV):D (k+1) 13 [SA [a,b,c],SA [d,f,h]]=P13 (D k) a b c d f h:=dF rfl rfl (p13 ..)
theorem D14(k:Nat)(a b c d f h j m r:DV):D (k+1) 14 [SA [a,b,c,d],SA [f,h,j,m,r]]=P14 (D k) a b c d f h j m r:=dF rfl rfl (p14 ..)
theorem D15(k:Nat)(a b c d f h:DV):D (k+1) 15 [SA [a,b,c],SA [d,f,h]]=P15 (D k) a b c d f h:=dF rfl rfl (p15 ..)
theorem D16(k:Nat)(a b c d a1:DV):D (k+1) 16 [SA [a,b,c,d],S1 a1]=P16 (D k) a b c d a1:=dF rfl rfl (p16 ..)
theorem D17(k:Nat)(a b c:DV):D (k+1) 17 [SA [a,b,c]]=P17 (D k) a b c:=dF rfl rfl (p17 ..)
theorem D18(k:Nat)(a b c d f h:DV):D (k+1) 18 [SA [a,b,c],SA [d,f,h]]=P18 (D k) a b c d f h:=dF rfl rfl (p18 ..)
theorem D19(k:Nat)(a b c d f h j m r s:DV):D (k+1) 19 [SA [a,b,c,d],SA [f,h,j],SA [m,r,s]]=P19 (D k) a b c d f h j m r s:=dF rfl rfl (p19 ..)
theorem D25(k:Nat)(a b c d f h j m r a1:DV):D (k+1) 25 [SA [a,b,c,d,f,h,j,m,r],S1 a1]=P25 (D k) a b c d f h j m r a1:=dF rfl rfl (p25 ..)
theorem D26(k:Nat)(a0 a b c d f h a3:DV):D (k+1) 26 [S1 a0,SA [a,b],SA [c,d,f,h],S1 a3]=P26 (D k) a0 a b c d f h a3:=dF rfl rfl (p26 ..)
theorem D27(k:Nat)(a b c d:DV):D (k+1) 27 [SA [a,b,c,d]]=P27 (D k) a b c d:=dF rfl rfl (p27 ..)
theorem D30(k:Nat)(a b c d:DV):D (k+1) 30 [SA [a,b,c],S1 (.fp [d] 0)]=P30 (D k) a b c d:=dF rfl rfl (p30 ..)
theorem D31(k:Nat)(a0 a b c:DV):D (k+1) 31 [S1 a0,SA [a,b,c]]=P31 (D k) a0 a b c:=dF rfl rfl (p31 ..)
theorem D38(k:Nat)(a b c a1:DV):D (k+1) 38 [SA [a,b,c],S1 a1]=P38 (D k) a b c a1:=dF rfl rfl (p38 ..)
theorem D39(k:Nat)(a0:DV):D (k+1) 39 [S1 a0]=P39 (D k) a0:=dF rfl rfl (p39 ..)
theorem D40(k:Nat)(a b c d f h j m r:DV):D (k+1) 40 [SA [a,b,c,d],SA [f,h,j],SA [m,r]]=P40 (D k) a b c d f h j m r:=dF rfl rfl (p40 ..)
theorem D41(k:Nat)(a0 a b:DV):D (k+1) 41 [S1 a0,SA [a,b]]=P41 (D k) a0 a b:=dF rfl rfl (p41 ..)
theorem D47(k:Nat)(a0:DV):D (k+1) 47 [S1 a0]=P47 (D k) a0:=dF rfl rfl (p47 ..)
theorem D48(k:Nat)(a0:DV):D (k+1) 48 [S1 a0]=P48 (D k) a0:=dF rfl rfl (p48 ..)
theorem D49(k:Nat)(a b c d:DV):D (k+1) 49 [SA [a,b],SA [c,d]]=P49 (D k) a b c d:=dF rfl rfl (p49 ..)
theorem D50(k:Nat)(a0:DV):D (k+1) 50 [S1 a0]=P50 (D k) a0:=dF rfl rfl (p50 ..)
theorem D51(k:Nat)(a b c d f h:DV):D (k+1) 51 [SA [a,b,c,d,f,h]]=P51 (D k) a b c d f h:=dF rfl rfl (p51 ..)
theorem D53(k:Nat)(a b c d f h j m r:DV):D (k+1) 53 [SA [a,b,c,d],SA [f,h,j,m,r]]=P53 (D k) a b c d f h j m r:=dF rfl rfl (p53 ..)
theorem D54(k:Nat)(a0 a1:DV):D (k+1) 54 [S1 a0,S1 a1]=P54 (D k) a0 a1:=dF rfl rfl (p54 ..)
theorem D55(k:Nat)(a b c d f h j:DV):D (k+1) 55 [SA [a,b,c,d],SA [f,h,j]]=P55 (D k) a b c d f h j:=dF rfl rfl (p55 ..)
theorem D57(k:Nat)(a0 a1:DV):D (k+1) 57 [S1 a0,S1 a1]=P57 (D k) a0 a1:=dF rfl rfl (p57 ..)
theorem D58(k:Nat)(a0 a b c:DV):D (k+1) 58 [S1 a0,SA [a,b,c]]=P58 (D k) a0 a b c:=dF rfl rfl (p58 ..)
theorem D61(k:Nat)(a b c d f h j m r:DV):D (k+1) 61 [SA [a,b,c,d],SA [f,h,j],SA [m,r]]=P61 (D k) a b c d f h j m r:=dF rfl rfl (p61 ..)
theorem D62(k:Nat)(a b c d f h j a2:DV):D (k+1) 62 [SA [a,b,c,d],SA [f,h,j],S1 a2]=P62 (D k) a b c d f h j a2:=dF rfl rfl (p62 ..)
theorem D69(k:Nat)(a b c d:DV):D (k+1) 69 [SA [a,b],SA [c,d]]=P69 (D k) a b c d:=dF rfl rfl (p69 ..)
theorem D70(k:Nat)(a b c d:DV):D (k+1) 70 [SA [a,b],SA [c,d]]=P70 (D k) a b c d:=dF rfl rfl (p70 ..)
theorem D71(k:Nat)(a0:DV):D (k+1) 71 [S1 a0]=P71 (D k) a0:=dF rfl rfl (p71 ..)
theorem D72(k:Nat)(a b:DV):D (k+1) 72 [SA [a,b]]=P72 (D k) a b:=dF rfl rfl (p72 ..)
theorem D73(k:Nat)(a0:DV):D (k+1) 73 [S1 a0]=P73 (D k) a0:=dF rfl rfl (p73 ..)
theorem D74(k:Nat)(a0:DV):D (k+1) 74 [S1 a0]=P74 (D k) a0:=dF rfl rfl (p74 ..)
theorem D75(k:Nat)(a b:DV):D (k+1) 75 [SA [a,b]]=P75 (D k) a b:=dF rfl rfl (p75 ..)
theorem D76(k:Nat)(a b c d f h j:DV):D (k+1) 76 [SA [a,b,c],SA [d,f,h,j]]=P76 (D k) a b c d f h j:=dF rfl rfl (p76 ..)
theorem D77(k:Nat)(a0 a1:DV):D (k+1) 77 [S1 a0,S1 a1]=P77 (D k) a0 a1:=dF rfl rfl (p77 ..)
theorem D78(k:Nat)(a b c d f h j m r s:DV):D (k+1) 78 [SA [a,b,c,d,f],S1 (.fp [h,j,m,r,s] 0)]=P78 (D k) a b c d f h j m r s:=dF rfl rfl (p78 ..)
theorem D80(k:Nat)(a b c d a1:DV):D (k+1) 80 [SA [a,b,c,d],S1 a1]=P80 (D k) a b c d a1:=dF rfl rfl (p80 ..)
theorem D81(k:Nat)(a b c d f h:DV):D (k+1) 81 [SA [a,b,c,d],SA [f,h]]=P81 (D k) a b c d f h:=dF rfl rfl (p81 ..)
theorem D82(k:Nat)(a b c d f h j a2:DV):D (k+1) 82 [SA [a,b,c,d],SA [f,h,j],S1 a2]=P82 (D k) a b c d f h j a2:=dF rfl rfl (p82 ..)
theorem D83(k:Nat)(a b c d f h j a2:DV):D (k+1) 83 [SA [a,b,c,d],SA [f,h,j],S1 a2]=P83 (D k) a b c d f h j a2:=dF rfl rfl (p83 ..)
theorem D89(k:Nat)(a b:DV):D (k+1) 89 [SA [a,b]]=P89 (D k) a b:=dF rfl rfl (p89 ..)
theorem D90(k:Nat)(a0 a1:DV):D (k+1) 90 [S1 a0,S1 a1]=P90 (D k) a0 a1:=dF rfl rfl (p90 ..)
theorem D91(k:Nat)(a0:DV):D (k+1) 91 [S1 a0]=P91 (D k) a0:=dF rfl rfl (p91 ..)
theorem D92(k:Nat)(a b c:DV):D (k+1) 92 [SA [a,b,c]]=P92 (D k) a b c:=dF rfl rfl (p92 ..)
theorem D93(k:Nat)(a b c a1:DV):D (k+1) 93 [SA [a,b,c],S1 a1]=P93 (D k) a b c a1:=dF rfl rfl (p93 ..)
theorem D94(k:Nat)(a0 a1:DV):D (k+1) 94 [S1 a0,S1 a1]=P94 (D k) a0 a1:=dF rfl rfl (p94 ..)
theorem D96(k:Nat)(a0 a b c d a2:DV):D (k+1) 96 [S1 a0,SA [a,b,c,d],S1 a2]=P96 (D k) a0 a b c d a2:=dF rfl rfl (p96 ..)
theorem zC1(k:Nat)(a0 a1:DV):D (k+1) 113 [S1 a0,S1 a1]=zAT (D k) a0 a1:=dF rfl rfl (zCa ..)
theorem zC0(k:Nat)(a0:DV):D (k+1) 114 [S1 a0]=zAS (D k) a0:=dF rfl rfl (zB9 ..)
theorem zCZ(k:Nat)(a0 a1:DV):D (k+1) 115 [S1 a0,S1 a1]=zAR (D k) a0 a1:=dF rfl rfl (zB8 ..)
theorem zCY(k:Nat)(a0 a b:DV):D (k+1) 116 [S1 a0,SA [a,b]]=zAQ (D k) a0 a b:=dF rfl rfl (zB7 ..)
theorem zFY(k:Nat)(a b c d a1:DV):D (k+1) 117 [SA [a,b,c,d],S1 a1]=zFy (D k) a b c d a1:=dF rfl rfl (zFP ..)
theorem zFX(k:Nat)(a0 a b a2:DV):D (k+1) 118 [S1 a0,SA [a,b],S1 a2]=zFx (D k) a0 a b a2:=dF rfl rfl (zFO ..)
theorem zCX(k:Nat)(a0 a b:DV):D (k+1) 136 [S1 a0,SA [a,b]]=zAN (D k) a0 a b:=dF rfl rfl (zB4 ..)
theorem zFW(k:Nat)(a0 a1:DV):D (k+1) 137 [S1 a0,S1 a1]=zFw (D k) a0 a1:=dF rfl rfl (zFN ..)
theorem zFV(k:Nat)(a b c d:DV):D (k+1) 138 [SA [a,b,c],S1 (.fp [d] 0)]=zFv (D k) a b c d:=dF rfl rfl (zFM ..)
end Go.Proofs.Tryz.Kn
end
section
namespace Go.Proofs.Tryz.Kn
open Go Go.CE Go.PE
theorem zkP:∀(l:List UInt8) (i:Nat),zja l i=(l[i]?).map fun c=>U8 (c.toNat:Int)
 | [],i=>by simp[zja]
 |c::l,0=>rfl
 |c::l,i+1=>by show zja l i=_;rw[zkP l i];simp
theorem zgN(s:ByteArray)(k:IntKind)(i:Nat):zbJ (.str s) (.int k (i:Int))=(s.data.toList[i]?).map fun c=>U8 (c.toNat:Int):=zkP _ _
theorem zeX(s:ByteArray):s.size=s.data.toList.length:=(Array.length_toList (xs:=s.data)).symm
theorem zqA(a b:ByteArray):znx .eql (.str a) (.str b)=some (.bool (a.data.toList==b.data.toList)):=rfl
def zdb(n:Int):Bool:=(decide (65≤n)&&decide (n≤90))||(decide (97≤n)&&decide (n≤122))
theorem t71(k:Nat)(n:Int):D (k+1) 71 [S1 (U8 n)]=some (S1 (Bo (zdb n))):=by rw[D71];unfold P71 zdb;by_cases h1:65≤n<;>by_cases h2:n≤90<;>by_cases h3:97≤n<;>by_cases h4:n≤122<;>simp[h1,h2,h3,h4]
def zmf(n:Int):Bool:=zdb n||(decide (48≤n)&&decide (n≤57))||decide (n=95)
def isName(s:ByteArray):Bool:=
 match s.data.toList with
 | []=>false
 |c::l=>decide (l.length≤31)&&zdb (c.toNat:Int)&&l.all fun c=>zmf (c.toNat:Int)
theorem l50(k:Nat)(s:ByteArray)(hs:s.data.toList.length≤1000):∀(r:List UInt8) (i:Nat),s.data.toList.drop i=r→
  zA (zpJ (D (k+1)) (.str s)) [I6 (i:Int)] []=some (if r.all (fun c=>zmf (c.toNat:Int)) then(.exit 0,[],[]) else(.ret,[Bo false],[])):=by
 intro r
 induction r with
 |nil=>grind[zu,ya,zpJ,zz,zcQ,zb,zj,zeX,xY,zn]
 |cons c r ih=>
  intro i h;have h1:=yH h;have h2:(i:Int)<(s.data.toList.length:Int):=by omega
  have ea:zc .add (I6 (i:Int)) (I6 1)=some (I6 ((i+1:Nat):Int)):=yQ;have ix:zbJ (.str s) (I6 (i:Int))=some (U8 (c.toNat:Int)):=by rw[zgN,xa h];rfl
  have body:zpJ (D (k+1)) (.str s) [I6 (i:Int)] []=some (if zmf (c.toNat:Int) then(.normal,[I6 ((i+1:Nat):Int)],[]) else(.ret,[Bo false],[])):=by
   simp only[zpJ,zz,zcQ,zb,zj,zn,zeX,jX h1,if_true,ix,t71,zX,yY,ea,zU,yE]
   grind[zmf]
  cases hc:zmf (c.toNat:Int) with
  |true=>rw[hc]at body;rw[zH body,ih (i+1) (zP h)];simp[hc]
  |false=>grind[zB]
theorem t50(k:Nat)(s:ByteArray):D (k+2) 50 [S1 (St s)]=some (S1 (Bo (isName s))):=by
 rw[D50];unfold P50 isName;simp only[zqA,zb,zn,zcQ,yE,zeX];cases hl:s.data.toList with
 |nil=>rfl
 |cons c l=>
  have ix:zbJ (.str s) (I6 0)=some (U8 (c.toNat:Int)):=by grind[zgN]
  simp only[ix,zb,t71,zX,yY,zn];rw[show ((c::l:List UInt8)==(ByteArray.mk #[]).data.toList)=false from rfl];by_cases h1:l.length≤31
  ·have h2:¬(32<((c::l).length:Int)):=by grind
   simp only[h2,h1,decide_true,decide_false,Yye,Yzh,if_false];cases zdb (c.toNat:Int) with
   |false=>rfl
   |true=>have:=l50 k s (by grind) l 1 (by grind);simp only[Yyf,Yzh,if_false,Yye];rw[show (I6 1:DV)=I6 ((1:Nat):Int) from rfl,this];cases l.all fun c=>zmf (c.toNat:Int)<;>rfl
  ·grind
def right(a b:Int):Int:=if a<0 then 3 else if 127<b then 3 else if b<a then 23 else 0
theorem t75(k:Nat)(a b:Int):D (k+1) 75 [SA [I6 a,I6 b]]=some (S1 (I6 (right a b))):=by rw[D75];unfold P75 right;by_cases h1:a<0<;>by_cases h2:127<b<;>by_cases h3:b<a<;>simp[h1,h2,h3]
theorem zCn(_O:Orc):∀(b a:Nat),zA (zkZ) [U64 (b:Int),U64 (a:Int)] []=some (.exit 0,[U64 ((Nat.gcd b a:Nat):Int)],[]):=by
 intro b
 induction b using Nat.strongRecOn with
 |ind b ih=>
  intro a;by_cases hb:0<b
  ·have hz:(b:Int)≠0:=by omega
   have h0:(0:Int)<(b:Int):=by omega
   rw[zH (L':=[U64 ((a % b:Nat):Int),U64 (b:Int)]) (M':=[]) (by simp only[zkZ,zz,yF,yE,zb,zn,zcc _ _ _ hz,h0,decide_true,if_true];rfl),ih (a % b) (Yz6 _ hb) b,←Nat.gcd_rec]
  ·have:b=0:=by omega
   subst this;exact zu (by simp[zkZ])
theorem t113(k:Nat)(a b:Nat):D (k+1) 113 [S1 (U64 (a:Int)),S1 (U64 (b:Int))]=some (S1 (U64 ((Nat.gcd b a:Nat):Int))):=by rw[zC1];unfold zAT;rw[zCn B];rfl
theorem zxh{k:IntKind}{n:Nat}(h:n≤18446744073709551615):xx .u64 (.int k (n:Int))=some (U64 (n:Int)):=by
 show some (DV.int .u64 (bif Nat.ble n 18446744073709551615 then .ofNat n else IntKind.wrap .u64 (.ofNat n)))=_
 grind[Yzf]
theorem t114(k:Nat){a:Int}(h1:-1000000≤a)(h2:a≤1000000):D (k+1) 114 [S1 (I6 a)]=some (S1 (U64 (a.natAbs:Int))):=by
 rw[zC0];unfold zAS;by_cases h:a<0
 ·obtain⟨n,rfl⟩:∃n:Nat,a=-(n:Int):=⟨a.natAbs,by omega⟩;have e1:xx .u64 (I6 (-(n:Int)))=some (U64 (18446744073709551616-(n:Int))):=by
   show some (DV.int .u64 (wB .u64 (-(n:Int))))=_
   grind[zsJ]
  have e2:wB .u64 (-(18446744073709551616-(n:Int)))=(n:Int):=by grind[zsJ]
  simp_all
 ·obtain⟨n,rfl⟩:∃n:Nat,a=(n:Int):=⟨a.natAbs,by omega⟩;simp only[zj,zb,zn,h,decide_false,Yzh,if_false,zxh (show n≤18446744073709551615 by omega)];simp
def zdm(n d:Int):Int:=if d≤0 then 2 else if 1000000<d then 2 else if n < -1000000 then 2 else if 1000000<n then 2 else bif Nat.gcd d.toNat n.natAbs==1 then 0 else 2
theorem t89(k:Nat)(n d:Int):D (k+2) 89 [SA [I6 n,I6 d]]=some (S1 (I6 (zdm n d))):=by
 rw[D89];unfold P89 zdm;simp only[zcd,yE,zj,zb,zn,YzD];by_cases h1:d≤0
 ·grind
 by_cases h2:1000000<d
 ·grind
 by_cases h3:n < -1000000
 ·grind
 by_cases h4:1000000<n
 ·grind
 obtain⟨m,rfl⟩:∃m:Nat,d=(m:Int):=⟨d.toNat,by omega⟩;simp only[h1,h2,h3,h4,if_false];rw[t114 k (by omega) (by omega)];simp only[zX,zxh (show m≤18446744073709551615 by omega),zb,t113,zU,zn,YzE]
 grind
def jK(n d:Int):Int:=if zdm n d≠0 then 2 else if n≤0 then 3 else if 128*d<n then 3 else if 128<d then 4 else 0
theorem t72(k:Nat)(n d:Int):D (k+3) 72 [SA [I6 n,I6 d]]=some (S1 (I6 (jK n d))):=by
 rw[D72];unfold P72 jK;rw[t89];simp only[zX,zU,zb,zn];by_cases h:zdm n d=0
 ·have hd:0<d∧d≤1000000:=by
   grind[zdm]
  simp only[h,zcd,zb,zn,zio (show (-9223372036854775808:Int)≤128*d by omega) (show 128*d≤9223372036854775807 by omega),yE,YzD]
  grind
 ·simp[h]
theorem t73(k:Nat)(n:Int):D (k+1) 73 [S1 (I6 n)]=some (S1 (Bo (decide (-256≤n)&&decide (n≤256)))):=by rw[D73];unfold P73;by_cases h1:-256≤n<;>by_cases h2:n≤256<;>simp[h1,h2]
def wK(n:Int):Bool:=decide (n<0)||decide (1000000<n)
theorem t91(k:Nat)(n:Int):D (k+1) 91 [S1 (I6 n)]=some (S1 (Bo (wK n))):=by rw[D91];unfold P91 wK;by_cases h1:n<0<;>by_cases h2:1000000<n<;>simp[h1,h2]
theorem zxs(O:Orc)(g:Nat)(ds:List DA):zhR O (.fn g []) ds=O g ds:=by simp[zhR]
def xO{α:Type}(p:α→Bool):List α→Nat→Option Nat
 | [],_=>none
 |x::l,i=>if p x then some i else xO p l (i+1)
theorem wv{α:Type}(p:α→Bool):∀(l:List α) (i:Nat),(xO p l i).isSome=l.any p
 | [],_=>rfl
 |x::l,i=>by
  simp only[xO,List.any_cons];cases h:p x
  ·simp[wv p l (i+1)]
  ·simp
def found:Option Nat→PX
 |some i=>(.ret,[I6 (i:Int)],[])
 |none=>(.exit 0,[],[])
abbrev enW(n:Int):List DV:=[I6 n]
theorem zCm(k:Nat)(w:Sl Int)(hw:w.els.length≤9223372036854775807):∀(r:List Int) (i:Nat),w.els.drop i=r→
  zA (zhK (D (k+1)) (I6 (w.els.length:Int)) (enL 1 enW w) (.fn 91 [])) [I6 (i:Int)] []=some (found (xO wK r i)):=by
 intro r
 induction r with
 |nil=>
  intro i h;refine zu ?_
  grind[zhK,zz,zj,zb,xY,ya,zn]
 |cons x r ih=>
  intro i h;have h1:=yH h;have ea:zc .add (I6 (i:Int)) (I6 1)=some (I6 ((i+1:Nat):Int)):=yQ;have body:zhK (D (k+1)) (I6 (w.els.length:Int)) (enL 1 enW w) (.fn 91 []) [I6 (i:Int)] []=some (if wK x then(.ret,[I6 (i:Int)],[]) else(.normal,[I6 ((i+1:Nat):Int)],[])):=by
   simp only[zhK,zz,zj,zb,jX h1,zn,if_true,yc h,xE,zxs,t91,zX,ea]
   grind
  grind[zB,xO,found,zH,zP]
theorem t115(k:Nat)(w:Sl Int)(hw:w.els.length≤9223372036854775807):D (k+2) 115 [S1 (enL 1 enW w),S1 (.fn 91 [])]=some (S1 (I6 (match xO wK w.els 0 with|some i=>(i:Int)|none=>-1))):=by rw[zCZ];unfold zAR;have:=zCm k w hw w.els 0 rfl;simp only[zD,zb];rw[show (I6 0:DV)=I6 ((0:Nat):Int) from rfl,this];cases xO wK w.els 0<;>rfl
theorem t90(k:Nat)(w:Sl Int)(hw:w.els.length≤9223372036854775807):D (k+3) 90 [S1 (enL 1 enW w),S1 (.fn 91 [])]=some (S1 (Bo (w.els.any wK))):=by rw[D90];unfold P90;rw[t115 k w hw,←wv wK w.els 0];cases xO wK w.els 0<;>simp_all
theorem t74(k:Nat)(w:Sl Int)(hw:w.els.length≤9223372036854775807):D (k+4) 74 [S1 (enL 1 enW w)]=some (S1 (I6 (if w.els.any wK then 3 else 0))):=by rw[D74];unfold P74;rw[t90 k w hw];cases w.els.any wK<;>rfl
structure Zj where
 name:ByteArray
 tone:ByteArray
 num:Int
 den:Int
 first:Int
 wind:Sl Int
def enR(r:Zj):List DV:=[St r.name,St r.tone,I6 r.num,I6 r.den,I6 r.first,enL 1 enW r.wind]
def y8(r:Zj):Int:=
 if !isName r.name then 8 else if !isName r.tone then 8 else if jK r.num r.den≠0 then jK r.num r.den
 else if !(decide (-256≤r.first)&&decide (r.first≤256)) then 3 else if r.wind.els.length=0 then 13 else if 128<r.wind.els.length then 4 else if r.wind.els.any wK then 3 else 0
theorem t51(k:Nat)(r:Zj)(hw:r.wind.els.length≤9223372036854775807):D (k+5) 51 [SA (enR r)]=some (S1 (I6 (y8 r))):=by
 unfold enR;rw[D51];unfold P51 y8;simp only[t50,zX,yY,zb,zn];cases isName r.name with
 |false=>rfl
 |true=>
  cases isName r.tone with
  |false=>rfl
  |true=>
   simp only[t72,t73,t74 k r.wind hw,zX,yY,zb,zn,zU,zD,zO,yE,Yyf,Yzh,if_false]
   grind
def vG:List Zj→Int
 | []=>0
 |r::l=>if y8 r≠0 then y8 r else vG l
def zec(r:Zj):Prop:=r.wind.els.length≤9223372036854775807
def zpT(id:Nat)(e:Int):PX:=if e≠0 then(.ret,[I6 e],[]) else(.exit id,[],[])
theorem l92(k:Nat)(l:Sl Zj)(hl:l.els.length≤9223372036854775807)(hr:∀r∈l.els,zec r):∀(r:List Zj) (i:Nat),l.els.drop i=r→
  zA (zpz (D (k+5)) (I6 (l.els.length:Int)) (enL 6 enR l)) [I6 (i:Int)] []=some (zpT 0 (vG r)):=by
 intro r
 induction r with
 |nil=>
  intro i h;refine zu ?_
  grind[zpz,zz,zj,zb,xY,ya,zn]
 |cons x r ih=>
  intro i h;have h1:=yH h;have ea:zc .add (I6 (i:Int)) (I6 1)=some (I6 ((i+1:Nat):Int)):=yQ;have hx:zec x:=hr x (Lz3 (xa h));have c:D (k+5) 51 [SA [atD (enR x) 0,atD (enR x) 1,atD (enR x) 2,atD (enR x) 3,atD (enR x) 4,atD (enR x) 5]]=some (S1 (I6 (y8 x))):=t51 k x hx;have body:zpz (D (k+5)) (I6 (l.els.length:Int)) (enL 6 enR l) [I6 (i:Int)] []=some (if y8 x≠0 then(.ret,[I6 (y8 x)],[]) else(.normal,[I6 ((i+1:Nat):Int)],[])):=by
   simp only[zpz,zz,zj,zb,jX h1,zn,if_true,yc h,c,zX,zU,ea]
   grind
  by_cases hc:y8 x=0
  ·rw[Yzb (by omega)]at body;rw[zH body,ih (i+1) (zP h)];grind[vG]
  ·rw[Yzd hc]at body;grind[zB,vG,zpT]
structure Place where
 ranks:Sl Zj
 low:Int
 high:Int
def enP(x:Place):List DV:=[enL 6 enR x.ranks,I6 x.low,I6 x.high]
structure Place.ok (x:Place):Prop where
 len:x.ranks.els.length≤9223372036854775807
 ranks:∀r∈x.ranks.els,zec r
def js(x:Place):Int:=if 60<x.ranks.els.length then 4 else if vG x.ranks.els≠0 then vG x.ranks.els else right x.low x.high
theorem t92(k:Nat)(x:Place)(hx:x.ok):D (k+6) 92 [SA (enP x)]=some (S1 (I6 (js x))):=by
 unfold enP;rw[D92];unfold P92 js;have:=l92 k x.ranks hx.len hx.ranks x.ranks.els 0 rfl;simp only[zD,zb,yE,zn];rw[show (I6 0:DV)=I6 ((0:Nat):Int) from rfl,this];by_cases h1:60<x.ranks.els.length
 ·grind
 ·have h2:¬((60:Int)<(x.ranks.els.length:Int)):=by omega
  simp only[h1,h2,decide_false,Yzh,if_false];unfold zpT;by_cases h3:vG x.ranks.els=0<;>simp_all[t75]
structure Zn where
 rank:Int
 shift:Int
deriving DecidableEq
def enD(d:Zn):List DV:=[I6 d.rank,I6 d.shift]
theorem zo0(a b:Zn):zmq [1,1] [I6 a.rank,I6 a.shift] [I6 b.rank,I6 b.shift]=some (decide (a=b)):=by
 cases a with|mk r s=>
 cases b with|mk r' s'=>
 simp only[zmq,eqD,xu,Yza,jU];by_cases h1:r=r'
 ·by_cases h2:s=s'
  ·grind
  ·have e2:(s==s')=false:=by grind
   simp[h1,h2,e2]
 ·have e1:(r==r')=false:=by grind
  simp[h1,e1]
theorem zCl(d:Zn)(l:Sl Zn)(hl:l.els.length≤9223372036854775807):∀(r:List Zn) (i:Nat),l.els.drop i=r→
  zA (zhH (I6 (l.els.length:Int)) (enL 2 enD l) (I6 d.rank) (I6 d.shift)) [I6 (i:Int)] []=some (found (xO (fun x=>decide (d=x)) r i)):=by
 intro r
 induction r with
 |nil=>
  intro i h;refine zu ?_
  grind[zhH,zz,zj,zb,xY,ya,zn]
 |cons x r ih=>
  intro i h;have h1:=yH h;have ea:zc .add (I6 (i:Int)) (I6 1)=some (I6 ((i+1:Nat):Int)):=yQ;have eq:=zo0 d x;have body:zhH (I6 (l.els.length:Int)) (enL 2 enD l) (I6 d.rank) (I6 d.shift) [I6 (i:Int)] []=some (if d=x then(.ret,[I6 (i:Int)],[]) else(.normal,[I6 ((i+1:Nat):Int)],[])):=by
   simp only[zhH,zz,zj,zb,jX h1,zn,if_true,yc h,enD,xE,vh,eq,ea]
   grind
  by_cases hc:d=x
  ·rw[Yzd hc]at body;grind[zB,xO,found]
  ·rw[Yzb hc]at body;grind[zH,zP,xO]
theorem t136(k:Nat)(d:Zn)(l:Sl Zn)(hl:l.els.length≤9223372036854775807):D (k+1) 136 [S1 (enL 2 enD l),SA (enD d)]=some (S1 (I6 (match xO (fun x=>decide (d=x)) l.els 0 with|some i=>(i:Int)|none=>-1))):=by unfold enD;rw[zCX];unfold zAN;have:=zCl d l hl l.els 0 rfl;unfold enD at this;simp only[zD,zb];rw[show (I6 0:DV)=I6 ((0:Nat):Int) from rfl,this];cases xO (fun x=>decide (d=x)) l.els 0<;>rfl
theorem t116(k:Nat)(d:Zn)(l:Sl Zn)(hl:l.els.length≤9223372036854775807):D (k+2) 116 [S1 (enL 2 enD l),SA (enD d)]=some (S1 (Bo (l.els.any fun x=>decide (d=x)))):=by have:=t136 k d l hl;unfold enD at this ⊢;rw[zCY];unfold zAQ;rw[this,←wv (fun x=>decide (d=x)) l.els 0];cases xO (fun x=>decide (d=x)) l.els 0<;>simp_all
end Go.Proofs.Tryz.Kn
end
section
namespace Go.Proofs.Tryz.Kn
open Go Go.CE Go.PE
theorem zAD(y:Nat):qP none 0 y=some 0:=rfl
theorem zAE{k:IntKind}{i d y:Nat}(h:i≤y):qP (some (.int k (i:Int))) d y=some i:=by
 show (bif Nat.ble i y then some i else none)=_
 grind[Yzf]
theorem zcO{α:Type}{st i:Nat}{f:α→List DV}{l:List α}{k:IntKind}(h:i≤l.length):
  vY st (enL st f (some l)) none (some (.int k (i:Int)))=some (enL st f (some (l.take i))):=by
 simp_all[vY,zcm,zAE,zAD]
def zad(n:Nat):List Zn→List Zn→Int
 |_,[]=>0
 |p,d::r=>if d.rank<0 then 10 else if (n:Int)≤d.rank then 10 else if d.shift < -127 then 3 else if 127<d.shift then 3 else if p.any (fun x=>decide (d=x)) then 9 else zad n (p++[d]) r
def xi(n:Nat)(l:List Zn):Int:=if 8<l.length then 4 else zad n [] l
theorem l93(k:Nat)(rs:Sl Zj)(l:List Zn)(hl:l.length≤9223372036854775807):∀(r:List Zn) (i:Nat),l.drop i=r→
  zA (zpy (D (k+2)) (I6 (l.length:Int)) (enL 2 enD (some l)) (enL 6 enR rs)) [I6 (i:Int)] []=some (zpT 0 (zad rs.els.length (l.take i) r)):=by
 intro r
 induction r with
 |nil=>
  intro i h;refine zu ?_
  grind[zpy,zz,zj,zb,xY,ya,zn]
 |cons x r ih=>
  intro i h;have h1:=yH h;have ea:zc .add (I6 (i:Int)) (I6 1)=some (I6 ((i+1:Nat):Int)):=yQ;have ix:yW 2 (enL 2 enD (some l)) (I6 (i:Int))=some (enD x):=yc (v:=some l) h _;have sl:vY 2 (enL 2 enD (some l)) none (some (I6 (i:Int)))=some (enL 2 enD (some (l.take i))):=zcO (by omega);have c:=t116 k x (some (l.take i)) (by grind);simp only[enD]at c;have body:zpy (D (k+2)) (I6 (l.length:Int)) (enL 2 enD (some l)) (enL 6 enR rs) [I6 (i:Int)] [] =
    some (if x.rank<0 then(.ret,[I6 10],[]) else if (rs.els.length:Int)≤x.rank then(.ret,[I6 10],[]) else if x.shift < -127 then(.ret,[I6 3],[]) else if 127<x.shift then(.ret,[I6 3],[]) else if (l.take i).any (fun y=>decide (x=y)) then(.ret,[I6 9],[]) else(.normal,[I6 ((i+1:Nat):Int)],[])):=by
   simp only[zpy,zz,zj,zb,jX h1,zn,if_true,ix,enD,xE,vh,zD,zaw,yE,sl,c,zX,ea,YzD,Sl.els,Yz2]
   grind
  have hn:l.take (i+1)=l.take i++[x]:=by grind
  unfold zad;by_cases a1:x.rank<0
  ·rw[Yzd a1]at body ⊢;rw[zB body];rfl
  rw[Yzb a1]at body ⊢;by_cases a2:(rs.els.length:Int)≤x.rank
  ·rw[Yzd a2]at body ⊢;rw[zB body];rfl
  rw[Yzb a2]at body ⊢;by_cases a3:x.shift < -127
  ·rw[Yzd a3]at body ⊢;rw[zB body];rfl
  rw[Yzb a3]at body ⊢;by_cases a4:127<x.shift
  ·rw[Yzd a4]at body ⊢;rw[zB body];rfl
  rw[Yzb a4]at body ⊢;by_cases a5:(l.take i).any (fun y=>decide (x=y))=true
  ·rw[Yzd a5]at body ⊢;rw[zB body];rfl
  rw[Yzb a5]at body ⊢
  grind[zH,zP]
theorem t93(k:Nat)(x:Place)(l:Sl Zn)(hl:l.els.length≤9223372036854775807):D (k+3) 93 [SA (enP x),S1 (enL 2 enD l)]=some (S1 (I6 (xi x.ranks.els.length l.els))):=by
 unfold enP;rw[D93];unfold P93 xi;simp only[zD,zb,yE,zn];by_cases h1:8<l.els.length
 ·grind
 ·have h2:¬((8:Int)<(l.els.length:Int)):=by omega
  simp only[h1,h2,decide_false,Yzh,if_false];cases l with
  |none=>rw[zu (id:=0) (L':=[]) (M':=[]) (by rfl)];rfl
  |some l=>have:=l93 k x.ranks l hl l 0 rfl;rw[show (I6 0:DV)=I6 ((0:Nat):Int) from rfl,show Sl.els (some l:Sl Zn)=l from rfl,this,List.take_zero];unfold zpT;by_cases h3:zad x.ranks.els.length [] l=0<;>simp_all
structure Seg where
 lo:Int
 hi:Int
 draws:Sl Zn
def enS(g:Seg):List DV:=[I6 g.lo,I6 g.hi,enL 2 enD g.draws]
def zvK(g:Seg):Prop:=g.draws.els.length≤9223372036854775807
structure Zr where
 name:ByteArray
 num:Int
 den:Int
 segs:Sl Seg
def vB(s:Zr):List DV:=[St s.name,I6 s.num,I6 s.den,enL 3 enS s.segs]
structure Zr.ok (s:Zr):Prop where
 len:s.segs.els.length≤9223372036854775807
 segs:∀g∈s.segs.els,zvK g
def leO(a:Int):Option Int→Bool
 |some t=>decide (a≤t)
 |none=>false
def zbI(l:List Seg):Nat→Option Int
 |0=>none
 |j+1=>(l[j]?).map Seg.hi
def u5(x:Place):List Seg→Option Int→Int
 | [],_=>0
 |g::r,p=>
  if min g.lo g.hi<x.low then 23 else if x.high<max g.lo g.hi then 23 else if g.hi<g.lo then 6
  else if leO g.lo p then 6
  else if xi x.ranks.els.length g.draws.els≠0 then xi x.ranks.els.length g.draws.els else u5 x r (some g.hi)
theorem l76(k:Nat)(x:Place)(l:Sl Seg)(hl:l.els.length≤9223372036854775807)(hs:∀g∈l.els,zvK g):∀(r:List Seg) (i:Nat),l.els.drop i=r→
  zA (zhC (D (k+3)) (I6 (l.els.length:Int)) (enL 3 enS l) (I6 x.low) (I6 x.high) (enL 6 enR x.ranks)) [I6 (i:Int)] []=some (zpT 1 (u5 x r (zbI l.els i))):=by
 intro r
 induction r with
 |nil=>
  intro i h;refine zu ?_
  grind[zhC,zz,zj,zb,xY,ya,zn]
 |cons g r ih=>
  intro i h;have h1:=yH h;have ea:zc .add (I6 (i:Int)) (I6 1)=some (I6 ((i+1:Nat):Int)):=yQ;have c:=t93 k x g.draws (hs g (Lz3 (xa h)));simp only[enP]at c;have body:zhC (D (k+3)) (I6 (l.els.length:Int)) (enL 3 enS l) (I6 x.low) (I6 x.high) (enL 6 enR x.ranks) [I6 (i:Int)] [] =
    some (if min g.lo g.hi<x.low then(.ret,[I6 23],[]) else if x.high<max g.lo g.hi then(.ret,[I6 23],[]) else if g.hi<g.lo then(.ret,[I6 6],[])
     else if leO g.lo (zbI l.els i)=true then(.ret,[I6 6],[]) else if xi x.ranks.els.length g.draws.els≠0 then(.ret,[I6 (xi x.ranks.els.length g.draws.els)],[]) else(.normal,[I6 ((i+1:Nat):Int)],[])):=by
   simp only[zhC,zz,zj,zb,jX h1,zn,if_true,yc h,enS,xE,vh,ztr,zv7,yE,c,zX,ea,YzD,zU];have tail:(if (!(xi x.ranks.els.length g.draws.els==0))=true then some ((.ret,[I6 (xi x.ranks.els.length g.draws.els)],[]):PX) else some (.normal,[I6 ((i+1:Nat):Int)],[])) =
     some (if xi x.ranks.els.length g.draws.els≠0 then(.ret,[I6 (xi x.ranks.els.length g.draws.els)],[]) else(.normal,[I6 ((i+1:Nat):Int)],[])):=by
    grind
   rw[tail];cases i with
   |zero=>
    have:¬((0:Int)<((0:Nat):Int)):=by omega
    simp only[this,if_false,Yzh,zbI,leO]
    grind
   |succ j=>
    obtain⟨q,hq⟩:∃q,l.els[j]? = some q:=⟨_,Lz5 (by omega)⟩;have h2:(0:Int)<((j+1:Nat):Int):=by omega
    have es:zc .sub (I6 ((j+1:Nat):Int)) (I6 1)=some (I6 (((j+1:Nat):Int)-1)):=zmK;have e1:((j+1:Nat):Int)-1=(j:Int):=by omega
    rw[e1]at es;have ix:yW 3 (enL 3 enS l) (I6 (j:Int))=some (enS q):=by grind[jB]
    simp only[zbI,hq,YzI,leO,h2,if_true,es,zb,ix,enS,vh,xE,zcd,zn,YzD]
    grind
  have hp:zbI l.els (i+1)=some g.hi:=by simp only[zbI,xa h,YzI]
  unfold u5;by_cases a1:min g.lo g.hi<x.low
  ·rw[Yzd a1]at body ⊢;rw[zB body];rfl
  rw[Yzb a1]at body ⊢;by_cases a2:x.high<max g.lo g.hi
  ·rw[Yzd a2]at body ⊢;rw[zB body];rfl
  rw[Yzb a2]at body ⊢;by_cases a3:g.hi<g.lo
  ·rw[Yzd a3]at body ⊢;rw[zB body];rfl
  rw[Yzb a3]at body ⊢;by_cases a4:leO g.lo (zbI l.els i)=true
  ·rw[Yzd a4]at body ⊢;rw[zB body];rfl
  rw[Yzb a4]at body ⊢;by_cases a5:xi x.ranks.els.length g.draws.els≠0
  ·rw[Yzd a5]at body ⊢;rw[zB body];simp_all[zpT]
  rw[Yzb a5]at body ⊢
  grind[zH,zP]
def uB(x:Place)(s:Zr):Int:=
 if js x≠0 then js x else if !isName s.name then 8 else if jK s.num s.den≠0 then jK s.num s.den
 else if s.segs.els.length=0 then 13 else if 12<s.segs.els.length then 4 else u5 x s.segs.els none
theorem t76(k:Nat)(x:Place)(s:Zr)(hx:x.ok)(hs:s.ok):D (k+7) 76 [SA (enP x),SA (vB s)]=some (S1 (I6 (uB x s))):=by
 have c1:=t92 k x hx;have l:=l76 (k+3) x s.segs hs.len hs.segs s.segs.els 0 rfl;unfold enP at c1 ⊢;unfold vB;rw[D76];unfold P76 uB;simp only[c1,t50,t72,zX,zU,zb,zn,yY,zD,zO,yE];by_cases h1:js x=0
 ·simp only[h1];cases isName s.name with
  |false=>rfl
  |true=>
   by_cases h2:jK s.num s.den=0
   ·simp only[h2];by_cases h3:s.segs.els.length=0
    ·simp[h3]
    ·have h4:¬((s.segs.els.length:Int)=0):=by omega
     by_cases h5:12<s.segs.els.length
     ·grind
     ·have h6:¬((12:Int)<(s.segs.els.length:Int)):=by omega
      rw[show (I6 0:DV)=I6 ((0:Nat):Int) from rfl,l,show zbI s.segs.els 0=none from rfl];unfold zpT;by_cases h7:u5 x s.segs.els none=0
      ·simp[h3,h5,h6,h7]
      ·simp[h3,h5,h6,h7]
   grind
 grind
end Go.Proofs.Tryz.Kn
end
section
namespace Go.Proofs.Tryz.Kn
open Go Go.CE Go.PE
def enF(p:Int×Int):List DV:=[I6 p.1,I6 p.2]
def feetA:List (Int×Int):=[(8,1),(4,1),(16,1),(2,1),(8,3),(8,5),(4,3),(1,1),(32,1),(16,3),(16,5),(32,3),(8,7),(2,3),(1,2),(64,1)]
def feetB:List (Int×Int):=[(8,1),(4,1),(16,1),(8,3),(2,1),(8,5)]
def fA(n:Nat):Int×Int:=(feetA[n % 16]?).getD (8,1)
def fB(n:Nat):Int×Int:=(feetB[n % 6]?).getD (8,1)
theorem zsp(n:Nat):feetA[n % 16]? = some (fA n):=by unfold fA;rw[Lz5 (show n % 16<feetA.length by rw[show feetA.length=16 from rfl];omega)];rfl
theorem zsn(n:Nat):feetB[n % 6]? = some (fB n):=by unfold fB;rw[Lz5 (show n % 6<feetB.length by rw[show feetB.length=6 from rfl];omega)];rfl
theorem zso(n:Nat):fA n∈feetA:=Lz3 (zsp n)
theorem zeB(n:Nat):fB n∈feetB:=Lz3 (zsn n)
theorem zw4:∀p∈feetA,jK p.1 p.2=0:=by trivial
theorem zw3:∀p∈feetB,jK p.1 p.2=0:=by trivial
theorem zCQ:(shSums.all fun s=>match wt s.g s.args ⟨.z,.nil⟩ bSums with|some v=>eqA v s.res|none=>false)=true:=by kernel_rfl
theorem zA5{s:CE.Sum}(hs:s∈shSums){xs:List DA}{d:DA}(hg:([85,86,87,88]:List Nat).any (Nat.beq s.g)=true)(ha:avs xs=some s.args)(hd:ofA s.res=some d):B s.g xs=some d:=by
 have h:=YzL.1 zCQ s hs;split at h
 ·rename_i v hv;have:=zky h;subst this;rw[zC2 hg];unfold zva;have:=zwS hg
  grind
 ·cases h
theorem zpO(k:Nat){s:CE.Sum}(hs:s∈shSums){xs:List DA}{d:DA}(hg:([85,86,87,88]:List Nat).any (Nat.beq s.g)=true)(ha:avs xs=some s.args)(hd:ofA s.res=some d):D k s.g xs=some d:=zhk (zA5 hs hg ha hd)
theorem ztL{n:Nat}(h:n∈pows):zbc n∈shSums:=by grind[shSums]
theorem mem_of{n:Nat}(h:n∈pows):ofS n∈shSums:=by grind[shSums]
theorem zoi{x:Nat×Nat}(h:x∈dens){s:CE.Sum}(hs:s∈xF x):s∈shSums:=by grind[shSums]
theorem ztM{x:Nat×Nat×Nat}(h:x∈prs){s:CE.Sum}(hs:s∈yx x):s∈shSums:=by grind[shSums]
theorem e86(k:Nat){n:Nat}(h:n∈pows):D k 86 [S1 (I6 (n:Int))]=some (S1 (St (dec n))):=zpO k (mem_of h) rfl rfl rfl
theorem e85(k:Nat){n:Nat}(h:n∈pows):D k 85 [S1 (St (dec n)),S1 (I6 24)]=some (.tup [.one (St (dec (n^24))),.one (I6 0)]):=zpO k (ztL h) rfl rfl rfl
theorem zCV(k:Nat){x:Nat×Nat}(h:x∈dens):D k 87 [S1 (St (dec (x.1^24))),S1 (.str ⟨#[50]⟩)]=some (S1 (St (dec (lim x.1 0)))):=by
 have e:x.1^24*2=lim x.1 0:=by grind[lim]
 rw[←e];exact zpO k (zoi h (Yzg ..)) rfl rfl rfl
theorem zCU(k:Nat){x:Nat×Nat}(h:x∈dens){j:Nat}(hj:j<x.2):D k 87 [S1 (St (dec (lim x.1 j))),S1 (.str ⟨#[52]⟩)]=some (S1 (St (dec (lim x.1 (j+1))))):=by
 have e:lim x.1 j*4=lim x.1 (j+1):=by
  show 2*x.1^24*4^j*4=2*x.1^24*4^(j+1)
  grind
 rw[←e];exact zpO k (zoi h (Yze _ (List.mem_map.2 ⟨j,List.mem_range.2 hj,rfl⟩))) rfl rfl rfl
theorem e88(k:Nat){x:Nat×Nat×Nat}(h:x∈prs){j:Nat}(hj:j≤x.2.2):D k 88 [S1 (St (dec (x.1^24))),S1 (St (dec (lim x.2.1 j)))]=some (S1 (I6 (zvn (x.1^24) (lim x.2.1 j)))):=
 zpO k (ztM h (List.mem_map.2 ⟨j,List.mem_range.2 (by omega),rfl⟩)) rfl rfl rfl
def upN:Nat→Nat→Nat→Int→Nat×Int
 |0,num,_,n=>(num,n)
 |f+1,num,den,n=>if num<den then upN f (num*2) den (n-12) else(num,n)
def dnN:Nat→Nat→Nat→Int→Nat×Int
 |0,_,den,n=>(den,n)
 |f+1,num,den,n=>if 2*den≤num then dnN f num (den*2) (n+12) else(den,n)
theorem zCf(den:Nat)(hd:den≤1000000):∀(f num:Nat) (n:Int),den≤(upN f num den n).1→-1000000≤n-12*(f:Int)→n≤1000000→
  zA (zmk (I6 (den:Int))) [I6 (num:Int),I6 n] []=some (.exit 0,[I6 ((upN f num den n).1:Int),I6 (upN f num den n).2],[]):=by
 intro f
 induction f with
 |zero=>grind[zu,zmk,zz,yF,zj,zb,zn,upN]
 |succ f ih=>
  intro num n h h2 h3;unfold upN at h ⊢;by_cases hc:num<den
  ·rw[Yzd hc]at h ⊢;have h1:decide ((num:Int)<(den:Int))=true:=jX hc;have e1:zc .mul (I6 (num:Int)) (I6 2)=some (I6 ((num*2:Nat):Int)):=by
    grind[zio]
   have e2:zc .sub (I6 n) (I6 12)=some (I6 (n-12)):=zmK;have body:zmk (I6 (den:Int)) [I6 (num:Int),I6 n] []=some (.normal,[I6 ((num*2:Nat):Int),I6 (n-12)],[]):=by simp_all[zmk]
   grind[zH]
  ·rw[Yzb hc]
   grind[zu,zmk,zz,yF,zj,zb,zn]
theorem zCh(a:DV)(num:Nat)(hd:num≤1000000):∀(f den:Nat) (n:Int),num<2*(dnN f num den n).1→n+12*(f:Int)≤1000000→-1000000≤n→0<den→den≤1000000→
  zA (zeK [I6 (num:Int),a]) [I6 (den:Int),I6 n] []=some (.exit 2,[I6 ((dnN f num den n).1:Int),I6 (dnN f num den n).2],[]):=by
 intro f
 induction f with
 |zero=>
  intro den n h _ _ _ h5;have h:num<2*den:=h;have e1:zc .mul (I6 2) (I6 (den:Int))=some (I6 ((2*den:Nat):Int)):=by grind[zio]
  grind[zu,zeK,zz,yF,zaw,zb,zn,dnN]
 |succ f ih=>
  intro den n h h2 h3 h4 h5;unfold dnN at h ⊢;have e1:zc .mul (I6 2) (I6 (den:Int))=some (I6 ((2*den:Nat):Int)):=by grind[zio]
  by_cases hc:2*den≤num
  ·rw[Yzd hc]at h ⊢;have h1:decide (((2*den:Nat):Int)≤(num:Int))=true:=decide_eq_true (by omega);have e3:zc .mul (I6 (den:Int)) (I6 2)=some (I6 ((den*2:Nat):Int)):=by
    grind[zio]
   have e2:zc .add (I6 n) (I6 12)=some (I6 (n+12)):=yQ;have body:zeK [I6 (num:Int),a] [I6 (den:Int),I6 n] []=some (.normal,[I6 ((den*2:Nat):Int),I6 (n+12)],[]):=by simp_all[zeK]
   grind[zH]
  ·rw[Yzb hc]
   grind[zu,zeK,zz,yF,zaw,zb,zn]
theorem ztl:(prs.all fun x=>(List.range x.2.2).all (fun j=>Nat.ble (Nat.succ (lim x.2.1 j)) (x.1^24))&&Nat.ble (x.1^24) (lim x.2.1 x.2.2))=true:=by kernel_rfl
theorem zns:(prs.all fun x=>dens.any (fun y=>Nat.beq y.1 x.2.1&&Nat.ble x.2.2 y.2)&&pows.any (Nat.beq x.1)&&pows.any (Nat.beq x.2.1))=true:=by kernel_rfl
theorem zgk{n:Nat}{l:List Nat}(h:l.any (Nat.beq n)=true):n∈l:=by simp_all
theorem zCi(k:Nat)(x:Nat×Nat×Nat)(hx:x∈prs)(n:Int)(h1:-1000000≤n)(h2:n≤1000000)(hm:x.2.2≤100):∀(r j:Nat),j+r=x.2.2→
  zA (zhD (D k) [.one (St (dec (x.1^24))),.one (I6 0)]) [St (dec (lim x.2.1 j)),I6 (n+(j:Int))] []=some (.exit 4,[I6 (n+(x.2.2:Int))],[]):=by
 have hc:=YzL.1 ztl x hx;have hdn:=YzL.1 zns x hx;simp only[LzC]at hc hdn;obtain⟨y,hy,ey⟩:=List.any_eq_true.1 hdn.1.1;simp only[LzC]at ey;have ey1:y.1=x.2.1:=Lz1 ey.1;have ey2:=Lz4 ey.2;intro r
 induction r with
 |zero=>
  intro j hj;have hj:j=x.2.2:=by omega
  subst hj;have c:=e88 k hx (LzB _);have hle:=Lz4 hc.2;have hs:decide ((0:Int)<zvn (x.1^24) (lim x.2.1 x.2.2))=false:=by
   unfold zvn;rw[show Nat.ble (Nat.succ (lim x.2.1 x.2.2)) (x.1^24)=false from by cases hb:Nat.ble (Nat.succ (lim x.2.1 x.2.2)) (x.1^24) with|false=>rfl|true=>have:=Lz4 hb;omega]
   grind
  grind[zu,zhD,zz,yF,zkB,zf3,zX,yE,zb,zn]
 |succ r ih=>
  intro j hj;have c:=e88 k hx (show j≤x.2.2 by omega);have m:=zCU k hy (show j<y.2 by omega);rw[ey1]at m;have hlt:=Lz4 (YzL.1 hc.1 j (List.mem_range.2 (by omega)));have hs:decide ((0:Int)<zvn (x.1^24) (lim x.2.1 j))=true:=by grind[zvn,Yzf]
  have ea:zc .add (I6 (n+(j:Int))) (I6 1)=some (I6 (n+((j+1:Nat):Int))):=by rw[show n+((j+1:Nat):Int)=n+(j:Int)+1 by omega];exact yQ
  have body:zhD (D k) [.one (St (dec (x.1^24))),.one (I6 0)] [St (dec (lim x.2.1 j)),I6 (n+(j:Int))] []=some (.normal,[St (dec (lim x.2.1 (j+1))),I6 (n+((j+1:Nat):Int))],[]):=by simp_all[zhD]
  grind[zH]
def zsj(f g:Int×Int):Nat:=(g.1*f.2).toNat
def zl9(f g:Int×Int):Nat:=(g.2*f.1).toNat
def shU(f g:Int×Int):Nat×Int:=upN 20 (zsj f g) (zl9 f g) 0
def shD(f g:Int×Int):Nat×Int:=dnN 20 (shU f g).1 (zl9 f g) (shU f g).2
def shM(f g:Int×Int):Nat:=((prs.find? fun x=>Nat.beq x.1 (shU f g).1&&Nat.beq x.2.1 (shD f g).1).map fun x=>x.2.2).getD 0
def shf(f g:Int×Int):Int:=(shD f g).2+(shM f g:Int)
def zvI(f g:Int×Int):Bool:=
 decide (0≤g.1*f.2)&&decide (0<g.2*f.1)&&Nat.ble (zl9 f g) (shU f g).1&&Nat.ble (Nat.succ (shU f g).1) (2*(shD f g).1)&&(prs.any fun x=>Nat.beq x.1 (shU f g).1&&Nat.beq x.2.1 (shD f g).1&&Nat.beq x.2.2 (shM f g))
 && Nat.ble (zl9 f g) 1000000&&Nat.ble (zsj f g) 1000000&&Nat.ble (shU f g).1 1000000&&Nat.ble (shM f g) 100&&decide (-1000≤(shU f g).2)&&decide ((shU f g).2≤1000)&&decide (-1000≤(shD f g).2)&&decide ((shD f g).2≤1000)&&decide (-100≤shf f g)&&decide (shf f g≤100)
theorem zvG:(feetB.all fun f=>feetA.all fun g=>zvI f g)=true:=by kernel_rfl
structure Zv (f g:Int×Int):Prop where
 a:0≤g.1*f.2
 b:0<g.2*f.1
 c:zl9 f g≤(shU f g).1
 d:(shU f g).1<2*(shD f g).1
 e:∃x∈prs,x.1=(shU f g).1∧x.2.1=(shD f g).1∧x.2.2=shM f g
 f1:zl9 f g≤1000000
 f2:zsj f g≤1000000
 f3:(shU f g).1≤1000000
 f4:shM f g≤100
 g1:-1000≤(shU f g).2
 g2:(shU f g).2≤1000
 g3:-1000≤(shD f g).2
 g4:(shD f g).2≤1000
 h1:-100≤shf f g
 h2:shf f g≤100
theorem zm1{f g:Int×Int}(hf:f∈feetB)(hg:g∈feetA):Zv f g:=by have h:=YzL.1 (YzL.1 zvG f hf) g hg;unfold zvI at h;simp only[LzC,YzD]at h;obtain⟨⟨⟨⟨⟨⟨⟨⟨⟨⟨⟨⟨⟨⟨a,b⟩,c⟩,d⟩,e⟩,f1⟩,f2⟩,f3⟩,f4⟩,g1⟩,g2⟩,g3⟩,g4⟩,h1⟩,h2⟩:=h;obtain⟨x,hx,hq⟩:=List.any_eq_true.1 e;simp only[LzC]at hq;exact⟨a,b,Lz4 c,Lz4 d,⟨x,hx,Lz1 hq.1.1,Lz1 hq.1.2,Lz1 hq.2⟩,Lz4 f1,Lz4 f2,Lz4 f3,Lz4 f4,g1,g2,g3,g4,h1,h2⟩
theorem zm0(f g:Int×Int)(hf:f∈feetB)(hg:g∈feetA):-100≤shf f g∧shf f g≤100:=⟨(zm1 hf hg).h1,(zm1 hf hg).h2⟩
theorem t70(k:Nat)(f g:Int×Int)(hf:f∈feetB)(hg:g∈feetA):D (k+1) 70 [SA (enF f),SA (enF g)]=some (S1 (I6 (shf f g))):=by
 have H:=zm1 hf hg;obtain⟨x,hx,x1,x2,x3⟩:=H.e;have a1:g.1*f.2=((zsj f g:Nat):Int):=by unfold zsj;have:=H.a;omega
 have a2:g.2*f.1=((zl9 f g:Nat):Int):=by unfold zl9;have:=H.b;omega
 have hb:=H.b;rw[a2]at hb;have b1:=H.f1;have b2:=H.f2;have b3:=H.f3;have b4:=H.f4;have c1:=H.g1;have c2:=H.g2;have c3:=H.g3;have c4:=H.g4
 have m1:zc .mul (I6 g.1) (I6 f.2)=some (I6 ((zsj f g:Nat):Int)):=by grind[zio]
 have m2:zc .mul (I6 g.2) (I6 f.1)=some (I6 ((zl9 f g:Nat):Int)):=by grind[zio]
 have lu:=zCf (zl9 f g) b1 20 (zsj f g) 0 H.c (by omega) (by omega);have ld:=zCh (I6 (shU f g).2) (shU f g).1 b3 20 (zl9 f g) (shU f g).2 H.d (by omega) (by omega) (by omega) b1;have lc:=zCi k x hx (shD f g).2 (by omega) (by omega) (by omega) x.2.2 0 (by omega);have hdn:=YzL.1 zns x hx;simp only[LzC]at hdn;obtain⟨y,hy,ey⟩:=List.any_eq_true.1 hdn.1.1;simp only[LzC]at ey;have ey1:y.1=x.2.1:=Lz1 ey.1;have o1:=e86 k (zgk hdn.1.2);have p1:=e85 k (zgk hdn.1.2);have o2:=e86 k (zgk hdn.2);have p2:=e85 k (zgk hdn.2);have u0:=zCV k hy;rw[ey1]at u0;rw[x1]at o1 p1 lc;rw[x2]at o2 p2 u0 lc;rw[x3]at lc;rw[show (shD f g).2+((0:Nat):Int)=(shD f g).2 by omega]at lc;have hU:upN 20 (zsj f g) (zl9 f g) 0=shU f g:=rfl;have hD:dnN 20 (shU f g).1 (zl9 f g) (shU f g).2=shD f g:=rfl;rw[hU]at lu;rw[hD]at ld;unfold enF;rw[D70];unfold P70;have bt:∀{β:Type} (a b:DV) (K:List DS→Option β),bT [none,none] (some (.tup [.one a,.one b])) K=K [.one a,.one b]:=fun _ _ _=>rfl;simp only[m1,m2,zb];rw[lu];simp only[yq,Yzp,Yza,zz,yF];rw[ld];simp only[yq,Yzp,Yza,zz,yF,o1,o2,zX,p1,p2,bt,zkB,zf3,u0];rw[lc];rfl
theorem t69(k:Nat)(f g:Int×Int)(hf:f∈feetB)(hg:g∈feetA):D (k+4) 69 [SA (enF f),SA (enF g)]=some (S1 (I6 0)):=by grind[t72,zw3,zw4,enF,D69,P69,zX,zU,zb,zn]
theorem t49(k:Nat)(f g:Int×Int)(hf:f∈feetB)(hg:g∈feetA):D (k+5) 49 [SA (enF f),SA (enF g)]=some (.tup [.one (I6 (shf f g)),.one (I6 0)]):=by
 have c1:=t69 k f g hf hg
 grind[t70,enF,D49,P49,zX,zU,zb,zn]
end Go.Proofs.Tryz.Kn
end
section
namespace Go.Proofs.Tryz.Kn
open Go Go.CE Go.PE
def eqB(a b:ByteArray):Bool:=a.data.toList==b.data.toList
def enN(s:ByteArray):List DV:=[St s,Bo true]
theorem zo2(a b:ByteArray):zhO (.inl 2) (.one (St a)) (.one (St b))=some (eqB a b):=rfl
theorem qv(s:ByteArray):∀ns:List ByteArray,zfQ (.inl 2) 1048576 (.one (St s)) (ns.map enN)=some (if ns.any (eqB s)=true then some (.one (Bo true)) else none)
 | []=>rfl
 |n::ns=>by
  have e:zhO (.inl 2) (.one (St s)) (kD 1048576 (enN n))=some (eqB s n):=rfl;have v:vD 1048576 (enN n)=.one (Bo true):=rfl;rw[Yzv,zfQ,e,v,qv s ns,List.any_cons]
  grind
theorem zat(s:ByteArray):∀ns:List ByteArray,ns.any (eqB s)=false→zpR (.inl 2) 1048576 (.one (St s)) [St s,Bo true] (ns.map enN)=some ((ns++[s]).map enN)
 | [],_=>rfl
 |n::ns,h=>by simp only[List.any_cons,Bool.or_eq_false_iff]at h;have e:zhO (.inl 2) (.one (St s)) (kD 1048576 (enN n))=some (eqB s n):=rfl;simp only[Yzv,zpR,e,h.1,zat s ns h.2];rfl
theorem ztP(b:Bool):dsO (lkD (.one (Bo false)) (if b=true then some (DS.one (Bo true)) else none))=Bo b:=by cases b<;>rfl
structure Cpl where
 name:ByteArray
 src:Int
 dst:Int
 shift:Int
 thr:Bool
def enC(c:Cpl):List DV:=[St c.name,I6 c.src,I6 c.dst,I6 c.shift,Bo c.thr]
def enK(k:Int×Int):List DV:=[I6 k.1,I6 k.2]
theorem t78(k:Nat)(x c:Cpl):D (k+1) 78 [SA (enC x),S1 (.fp (enC c) 0)]=some (S1 (Bo (eqB x.name c.name))):=by unfold enC;rw[D78];rfl
theorem l94(k:Nat)(c:Cpl)(l:Sl Cpl)(hl:l.els.length≤9223372036854775807):∀(r:List Cpl) (i:Nat),l.els.drop i=r→
  zA (zpx (D (k+1)) (I6 (l.els.length:Int)) (enL 5 enC l) (.fn 78 [enC c])) [I6 (i:Int)] []=some (found (xO (fun x=>eqB x.name c.name) r i)):=by
 intro r
 induction r with
 |nil=>
  intro i h;refine zu ?_
  grind[zpx,zz,zj,zb,xY,ya,zn]
 |cons x r ih=>
  intro i h;have h1:=yH h;have ea:zc .add (I6 (i:Int)) (I6 1)=some (I6 ((i+1:Nat):Int)):=yQ;have cx:zhR (D (k+1)) (.fn 78 [enC c]) [SA [atD (enC x) 0,atD (enC x) 1,atD (enC x) 2,atD (enC x) 3,atD (enC x) 4]]=some (S1 (Bo (eqB x.name c.name))):=t78 k x c;have body:zpx (D (k+1)) (I6 (l.els.length:Int)) (enL 5 enC l) (.fn 78 [enC c]) [I6 (i:Int)] []=some (if eqB x.name c.name then(.ret,[I6 (i:Int)],[]) else(.normal,[I6 ((i+1:Nat):Int)],[])):=by
   simp only[zpx,zz,zj,zb,jX h1,zn,if_true,yc h,cx,zX,ea]
   grind
  cases hc:eqB x.name c.name with
  |true=>grind[zB,xO,found]
  |false=>grind[zH,zP,xO]
theorem t77(k:Nat)(c:Cpl)(l:Sl Cpl)(hl:l.els.length≤9223372036854775807):D (k+3) 77 [S1 (enL 5 enC l),S1 (.fn 78 [enC c])]=some (S1 (Bo (l.els.any fun x=>eqB x.name c.name))):=by
 have e:D (k+2) 94 [S1 (enL 5 enC l),S1 (.fn 78 [enC c])]=some (S1 (I6 (match xO (fun x=>eqB x.name c.name) l.els 0 with|some i=>(i:Int)|none=>-1))):=by rw[D94];unfold P94;have:=l94 k c l hl l.els 0 rfl;simp only[zD,zb];rw[show (I6 0:DV)=I6 ((0:Nat):Int) from rfl,this];cases xO (fun x=>eqB x.name c.name) l.els 0<;>rfl
 rw[D77];unfold P77;rw[e,←wv (fun x=>eqB x.name c.name) l.els 0];cases xO (fun x=>eqB x.name c.name) l.els 0<;>simp_all
def ziW(n:Nat):List Cpl→List Cpl→Int
 |_,[]=>0
 |p,c::r=>
  if isName c.name=false then 8 else if p.any (fun x=>eqB x.name c.name)=true then 9 else if c.src<0 then 10 else if (n:Int)≤c.src then 10 else if c.dst<0 then 10 else if (n:Int)≤c.dst then 10
  else if c.shift < -127 then 3 else if 127<c.shift then 3 else if c.src=c.dst∧c.shift=0 then 7 else ziW n (p++[c]) r
def zkG(ks:List (Int×Int))(l:List Cpl):Int:=
 if 8<ks.length then 4 else if 40<l.length then 4 else if ks.any (fun k=>right k.1 k.2 != 0)=true then 23 else ziW ks.length [] l
theorem l54(k:Nat)(ks:Sl (Int×Int))(l:List Cpl)(hl:l.length≤9223372036854775807):∀(r:List Cpl) (i:Nat),l.drop i=r→
  zA (zhE (D (k+3)) (I6 (l.length:Int)) (enL 5 enC (some l)) (enL 2 enK ks)) [I6 (i:Int)] []=some (zpT 2 (ziW ks.els.length (l.take i) r)):=by
 intro r
 induction r with
 |nil=>
  intro i h;refine zu ?_
  grind[zhE,zz,zj,zb,xY,ya,zn]
 |cons x r ih=>
  intro i h;have h1:=yH h;have ea:zc .add (I6 (i:Int)) (I6 1)=some (I6 ((i+1:Nat):Int)):=yQ;have ix:yW 5 (enL 5 enC (some l)) (I6 (i:Int))=some (enC x):=yc (v:=some l) h _;have sl:vY 5 (enL 5 enC (some l)) none (some (I6 (i:Int)))=some (enL 5 enC (some (l.take i))):=zcO (by omega);have c:=t77 k x (some (l.take i)) (by grind);have cn:=t50 (k+1) x.name;simp only[enC,xw]at c;have body:zhE (D (k+3)) (I6 (l.length:Int)) (enL 5 enC (some l)) (enL 2 enK ks) [I6 (i:Int)] [] =
    some (if isName x.name=false then(.ret,[I6 8],[]) else if (l.take i).any (fun y=>eqB y.name x.name)=true then(.ret,[I6 9],[]) else if x.src<0 then(.ret,[I6 10],[]) else if (ks.els.length:Int)≤x.src then(.ret,[I6 10],[])
     else if x.dst<0 then(.ret,[I6 10],[]) else if (ks.els.length:Int)≤x.dst then(.ret,[I6 10],[]) else if x.shift < -127 then(.ret,[I6 3],[]) else if 127<x.shift then(.ret,[I6 3],[])
     else if x.src=x.dst∧x.shift=0 then(.ret,[I6 7],[]) else(.normal,[I6 ((i+1:Nat):Int)],[])):=by
   simp only[zhE,zz,zj,zb,jX h1,zn,if_true,ix,enC,xE,vh,zD,zaw,yE,zO,sl,c,cn,zX,zuU,yY,ea,YzD];cases isName x.name<;>grind
  have hn:l.take (i+1)=l.take i++[x]:=by grind
  unfold ziW;by_cases a0:isName x.name=false
  ·rw[Yzd a0]at body ⊢;rw[zB body];rfl
  rw[Yzb a0]at body ⊢;by_cases a1:(l.take i).any (fun y=>eqB y.name x.name)=true
  ·rw[Yzd a1]at body ⊢;rw[zB body];rfl
  rw[Yzb a1]at body ⊢;by_cases a2:x.src<0
  ·rw[Yzd a2]at body ⊢;rw[zB body];rfl
  rw[Yzb a2]at body ⊢;by_cases a3:(ks.els.length:Int)≤x.src
  ·rw[Yzd a3]at body ⊢;rw[zB body];rfl
  rw[Yzb a3]at body ⊢;by_cases a4:x.dst<0
  ·rw[Yzd a4]at body ⊢;rw[zB body];rfl
  rw[Yzb a4]at body ⊢;by_cases a5:(ks.els.length:Int)≤x.dst
  ·rw[Yzd a5]at body ⊢;rw[zB body];rfl
  rw[Yzb a5]at body ⊢;by_cases a6:x.shift < -127
  ·rw[Yzd a6]at body ⊢;rw[zB body];rfl
  rw[Yzb a6]at body ⊢;by_cases a7:127<x.shift
  ·rw[Yzd a7]at body ⊢;rw[zB body];rfl
  rw[Yzb a7]at body ⊢;by_cases a8:x.src=x.dst∧x.shift=0
  ·rw[Yzd a8]at body ⊢;rw[zB body];rfl
  rw[Yzb a8]at body ⊢
  grind[zH,zP]
theorem zCg(k:Nat)(ks:Sl (Int×Int))(hl:ks.els.length≤9223372036854775807):∀(r:List (Int×Int)) (i:Nat),ks.els.drop i=r→
  zA (zpH (D (k+1)) (I6 (ks.els.length:Int)) (enL 2 enK ks)) [I6 (i:Int)] []=some (if r.any (fun k=>right k.1 k.2 != 0)=true then(.ret,[I6 23],[]) else(.exit 0,[],[])):=by
 intro r
 induction r with
 |nil=>grind[zu,zpH,zz,zj,zb,xY,ya,zn]
 |cons x r ih=>
  intro i h;have h1:=yH h;have ea:zc .add (I6 (i:Int)) (I6 1)=some (I6 ((i+1:Nat):Int)):=yQ;have c:=t75 k x.1 x.2;have body:zpH (D (k+1)) (I6 (ks.els.length:Int)) (enL 2 enK ks) [I6 (i:Int)] []=some (if right x.1 x.2=0 then(.normal,[I6 ((i+1:Nat):Int)],[]) else(.ret,[I6 23],[])):=by
   simp only[zpH,zz,zj,zb,jX h1,zn,if_true,yc h,enK,xE,vh,c,zX,zU,ea]
   grind
  by_cases hc:right x.1 x.2=0
  ·rw[Yzd hc]at body;rw[zH body,ih (i+1) (zP h),List.any_cons,hc];rfl
  ·rw[Yzb hc]at body;rw[zB body,Yzd (by simp[hc])]
theorem t54(k:Nat)(ks:Sl (Int×Int))(l:Sl Cpl)(hk:ks.els.length≤9223372036854775807)(hl:l.els.length≤9223372036854775807):D (k+4) 54 [S1 (enL 2 enK ks),S1 (enL 5 enC l)]=some (S1 (I6 (zkG ks.els l.els))):=by
 rw[D54];unfold P54 zkG;have ck:=zCg (k+2) ks hk ks.els 0 rfl;simp only[zD,zb,yE,zn];rw[show (I6 0:DV)=I6 ((0:Nat):Int) from rfl,ck];by_cases h1:8<ks.els.length
 ·grind
 have h2:¬((8:Int)<(ks.els.length:Int)):=by omega
 by_cases h3:40<l.els.length
 ·grind
 have h4:¬((40:Int)<(l.els.length:Int)):=by omega
 simp only[h1,h2,h3,h4,decide_false,Yzh,if_false];by_cases h5:ks.els.any (fun k=>right k.1 k.2 != 0)=true
 ·simp_all
 rw[Yzb h5,Yzb h5];simp only[yq,Yzp,Yza];cases l with
 |none=>rw[zu (id:=2) (L':=[]) (M':=[]) (by rfl)];rfl
 |some l=>have:=l54 k ks l hl l 0 rfl;rw[show Sl.els (some l:Sl Cpl)=l from rfl,this,List.take_zero];unfold zpT;by_cases h6:ziW ks.els.length [] l=0<;>simp[h6]
structure Zo where
 name:ByteArray
 pedal:Bool
 low:Int
 high:Int
 stops:Sl Zr
def enV(d:Zo):List DV:=[St d.name,Bo d.pedal,I6 d.low,I6 d.high,enL 4 vB d.stops]
structure Zo.ok (d:Zo):Prop where
 len:d.stops.els.length≤9223372036854775807
 stops:∀s∈d.stops.els,s.ok
structure Org where
 name:ByteArray
 ranks:Sl Zj
 divs:Sl Zo
 cpls:Sl Cpl
def enO(o:Org):List DV:=[St o.name,enL 6 enR o.ranks,enL 5 enV o.divs,enL 5 enC o.cpls]
structure Org.ok (o:Org):Prop where
 rl:o.ranks.els.length≤9223372036854775807
 ranks:∀r∈o.ranks.els,zec r
 dl:o.divs.els.length≤9223372036854775807
 divs:∀d∈o.divs.els,d.ok
 cl:o.cpls.els.length≤9223372036854775807
def qS(x:Place):List Zr→List ByteArray→Int
 | [],_=>0
 |s::r,ns=>if uB x s≠0 then uB x s else if ns.any (eqB s.name)=true then 9 else qS x r (ns++[s.name])
def zlk(id:Nat)(e:Int)(m:List OC):PX:=if e≠0 then(.ret,[I6 e],m) else(.exit id,[],m)
theorem l53(k:Nat)(x:Place)(hx:x.ok)(l:Sl Zr)(hl:l.els.length≤9223372036854775807)(hs:∀s∈l.els,s.ok):∀(r:List Zr) (i:Nat) (ns:List ByteArray),l.els.drop i=r→
  ∃m,zA (zpI (D (k+7)) (I6 (l.els.length:Int)) (enL 4 vB l) (enL 6 enR x.ranks) (I6 x.low) (I6 x.high)) [I6 (i:Int)] [some (ns.map enN)]=some (zlk 0 (qS x r ns) m):=by
 intro r
 induction r with
 |nil=>intro i ns h;refine⟨[some (ns.map enN)],zu ?_⟩;simp only[zpI,zz,zj,zb,xY (ya h),zn];rfl
 |cons s r ih=>
  intro i ns h;have h1:=yH h;have ea:zc .add (I6 (i:Int)) (I6 1)=some (I6 ((i+1:Nat):Int)):=yQ;have c:=t76 k x s hx (hs s (Lz3 (xa h)));simp only[enP,vB]at c;have body:∃m,zpI (D (k+7)) (I6 (l.els.length:Int)) (enL 4 vB l) (enL 6 enR x.ranks) (I6 x.low) (I6 x.high) [I6 (i:Int)] [some (ns.map enN)] =
    some (if uB x s≠0 then(.ret,[I6 (uB x s)],m) else if ns.any (eqB s.name)=true then(.ret,[I6 9],m) else(.normal,[I6 ((i+1:Nat):Int)],[some ((ns++[s.name]).map enN)])):=by
   refine⟨[some (ns.map enN)],?_⟩;simp only[zpI,zz,yM,zj,zb,jX h1,zn,if_true,yc h,vB,xE,vh,c,zX,zU,zab,zo2,qv,ztP,ea];by_cases hz:uB x s=0
   ·cases hb:ns.any (eqB s.name)<;>simp_all[zat]
   grind
  obtain⟨m,body⟩:=body;unfold qS;by_cases a1:uB x s≠0
  ·rw[Yzd a1]at body ⊢;exact⟨m,by rw[zB body];simp_all[zlk]⟩
  rw[Yzb a1]at body ⊢;by_cases a2:ns.any (eqB s.name)=true
  ·rw[Yzd a2]at body ⊢;exact⟨m,by rw[zB body];rfl⟩
  rw[Yzb a2]at body ⊢;rw[zH body];exact ih (i+1) _ (zP h)
def qM(rs:Sl Zj)(d:Zo):Int:=if right d.low d.high≠0 then right d.low d.high else if 60<d.stops.els.length then 4 else qS ⟨rs,d.low,d.high⟩ d.stops.els []
theorem t53(k:Nat)(o:Org)(ho:o.ok)(d:Zo)(hd:d.ok):D (k+8) 53 [SA (enO o),SA (enV d)]=some (S1 (I6 (qM o.ranks d))):=by
 have hx:Place.ok ⟨o.ranks,d.low,d.high⟩:=⟨ho.rl,ho.ranks⟩;obtain⟨m,l⟩:=l53 k ⟨o.ranks,d.low,d.high⟩ hx d.stops hd.len hd.stops d.stops.els 0 [] rfl;have c:=t75 (k+6) d.low d.high;unfold enO enV;rw[D53];unfold P53 qM;simp only[c,zX,zU,zb,zn,zD,yE];by_cases h1:right d.low d.high=0
 ·by_cases h2:60<d.stops.els.length
  ·grind
  ·have h3:¬((60:Int)<(d.stops.els.length:Int)):=by omega
   simp only[List.map_nil]at l;rw[show (I6 0:DV)=I6 ((0:Nat):Int) from rfl,l];unfold zlk;by_cases h4:qS ⟨o.ranks,d.low,d.high⟩ d.stops.els []=0<;>simp[h1,h2,h3,h4]
 grind
def j0:List Zj→List ByteArray→Int
 | [],_=>0
 |x::r,ns=>if y8 x≠0 then y8 x else if ns.any (eqB x.name)=true then 9 else j0 r (ns++[x.name])
theorem l27(k:Nat)(l:Sl Zj)(hl:l.els.length≤9223372036854775807)(hs:∀s∈l.els,zec s):∀(r:List Zj) (i:Nat) (ns:List ByteArray),l.els.drop i=r→
  ∃m,zA (zpK (D (k+5)) (I6 (l.els.length:Int)) (enL 6 enR l)) [I6 (i:Int)] [some (ns.map enN)]=some (zlk 1 (j0 r ns) m):=by
 intro r
 induction r with
 |nil=>intro i ns h;refine⟨[some (ns.map enN)],zu ?_⟩;simp only[zpK,zz,zj,zb,xY (ya h),zn];rfl
 |cons s r ih=>
  intro i ns h;have h1:=yH h;have ea:zc .add (I6 (i:Int)) (I6 1)=some (I6 ((i+1:Nat):Int)):=yQ;have c:=t51 k s (hs s (Lz3 (xa h)));simp only[enR]at c;have body:∃m,zpK (D (k+5)) (I6 (l.els.length:Int)) (enL 6 enR l) [I6 (i:Int)] [some (ns.map enN)] =
    some (if y8 s≠0 then(.ret,[I6 (y8 s)],m) else if ns.any (eqB s.name)=true then(.ret,[I6 9],m) else(.normal,[I6 ((i+1:Nat):Int)],[some ((ns++[s.name]).map enN)])):=by
   refine⟨[some (ns.map enN)],?_⟩;simp only[zpK,zz,yM,zj,zb,jX h1,zn,if_true,yc h,enR,xE,vh,c,zX,zU,zab,zo2,qv,ztP,ea];by_cases hz:y8 s=0
   ·cases hb:ns.any (eqB s.name)<;>simp_all[zat]
   grind
  obtain⟨m,body⟩:=body;unfold j0;by_cases a1:y8 s≠0
  ·rw[Yzd a1]at body ⊢;exact⟨m,by rw[zB body];simp_all[zlk]⟩
  rw[Yzb a1]at body ⊢;by_cases a2:ns.any (eqB s.name)=true
  ·rw[Yzd a2]at body ⊢;exact⟨m,by rw[zB body];rfl⟩
  rw[Yzb a2]at body ⊢;rw[zH body];exact ih (i+1) _ (zP h)
def zaY(rs:Sl Zj):List Zo→List ByteArray→Int
 | [],_=>0
 |d::r,ns=>if isName d.name=false then 8 else if ns.any (eqB d.name)=true then 9 else if qM rs d≠0 then qM rs d else zaY rs r (ns++[d.name])
def keyOf(d:Zo):Int×Int:=(d.low,d.high)
def grow{α:Type}(l:List α):Sl α:=match l with | []=>none|_=>some l
theorem zK{α:Type}(l:List α):(grow l).els=l:=by cases l<;>rfl
theorem wi{α:Type}(l:List α)(x:α):grow (l++[x])=some ((grow l).els++[x]):=by rw[zK];cases l<;>rfl
theorem zz0(k:Nat)(o:Org)(ho:o.ok)(hle:o.divs.els.length≤8):∀(r:List Zo) (i:Nat) (ns:List ByteArray),o.divs.els.drop i=r→
  ∃m,zA (zhF (D (k+8)) (I6 (o.divs.els.length:Int)) (enL 5 enV o.divs) (St o.name) (enL 6 enR o.ranks) (enL 5 enC o.cpls)) [I6 (i:Int)] [ocL enK (grow ((o.divs.els.take i).map keyOf)),some (ns.map enN)] =
   some (if zaY o.ranks r ns≠0 then(.ret,[I6 (zaY o.ranks r ns)],m) else(.exit 4,[],[ocL enK (grow (o.divs.els.map keyOf)),m.headD none])):=by
 intro r
 induction r with
 |nil=>intro i ns h;refine⟨[some (ns.map enN)],zu ?_⟩;have:o.divs.els.take i=o.divs.els:=List.take_of_length_le (ya h);simp only[zhF,zz,zj,zb,xY (ya h),zn,this];rfl
 |cons d r ih=>
  intro i ns h;have h1:=yH h;have ea:zc .add (I6 (i:Int)) (I6 1)=some (I6 ((i+1:Nat):Int)):=yQ;have c:=t53 k o ho d (ho.divs d (Lz3 (xa h)));have cn:=t50 (k+6) d.name;simp only[enO,enV]at c;have hn:o.divs.els.take (i+1)=o.divs.els.take i++[d]:=by grind
  have hlen:((grow ((o.divs.els.take i).map keyOf)).els).length=i:=by grind[zK]
  have ef:fits 16 ((grow ((o.divs.els.take i).map keyOf)).els.length+1)=true:=wH (by decide) (by omega);have body:∃m,zhF (D (k+8)) (I6 (o.divs.els.length:Int)) (enL 5 enV o.divs) (St o.name) (enL 6 enR o.ranks) (enL 5 enC o.cpls) [I6 (i:Int)] [ocL enK (grow ((o.divs.els.take i).map keyOf)),some (ns.map enN)] =
    some (if isName d.name=false then(.ret,[I6 8],m) else if ns.any (eqB d.name)=true then(.ret,[I6 9],m) else if qM o.ranks d≠0 then(.ret,[I6 (qM o.ranks d)],m)
     else(.normal,[I6 ((i+1:Nat):Int)],[ocL enK (grow ((o.divs.els.take (i+1)).map keyOf)),some ((ns++[d.name]).map enN)])):=by
   rw[hn,Yyi,Yzv,List.map_nil,wi];simp only[zhF,zz,yM,zbL,zj,zb,jX h1,zn,if_true,yc h,enV,xE,vh,c,cn,zX,yY,zU,zab,zo2,qv,ztP,ea,xZ,Yzm,YzJ,ef,kR,x9];cases isName d.name with
   |false=>simp
   |true=>
    cases hb:ns.any (eqB d.name) with
    |true=>simp
    |false=>
     refine⟨[some ((ns++[d.name]).map enN)],?_⟩;have ee:=vJ (f:=enK) (grow ((o.divs.els.take i).map keyOf)) (keyOf d);rw[←ee];simp only[zat d.name ns hb,zb];by_cases hz:qM o.ranks d=0
     ·simp[hz];rfl
     grind
  obtain⟨m,body⟩:=body;unfold zaY;by_cases a0:isName d.name=false
  ·simp only[Yzd a0]at body ⊢;grind[zB]
  simp only[Yzb a0]at body ⊢;by_cases a1:ns.any (eqB d.name)=true
  ·simp only[Yzd a1]at body ⊢;grind[zB]
  simp only[Yzb a1]at body ⊢;by_cases a2:qM o.ranks d≠0
  ·simp only[Yzd a2]at body ⊢;grind[zB]
  simp only[Yzb a2]at body ⊢;rw[zH body];exact ih (i+1) _ (zP h)
def jS(o:Org):Int:=
 if isName o.name=false then 8 else if 60<o.ranks.els.length then 4 else if j0 o.ranks.els []≠0 then j0 o.ranks.els [] else if o.divs.els.length=0 then 13 else if 8<o.divs.els.length then 4
 else if zaY o.ranks o.divs.els []≠0 then zaY o.ranks o.divs.els [] else zkG (o.divs.els.map keyOf) o.cpls.els
theorem t27(k:Nat)(o:Org)(ho:o.ok):D (k+9) 27 [SA (enO o)]=some (S1 (I6 (jS o))):=by
 obtain⟨m,l⟩:=l27 (k+3) o.ranks ho.rl ho.ranks o.ranks.els 0 [] rfl;have cn:=t50 (k+6) o.name;unfold enO;rw[D27];unfold P27 jS;simp only[cn,zX,yY,zU,zb,zn,zD,yE,zO];cases isName o.name with
 |false=>rfl
 |true=>
  by_cases h1:60<o.ranks.els.length
  ·grind
  have h2:¬((60:Int)<(o.ranks.els.length:Int)):=by omega
  simp only[List.map_nil]at l;simp only[h1,h2,decide_false,Yyf,Yzh,if_false,Bool.true_eq_false];rw[show (I6 0:DV)=I6 ((0:Nat):Int) from rfl,l];unfold zlk;by_cases h3:j0 o.ranks.els []≠0
  ·simp_all
  simp only[Yzb h3,yq,Yzp,Yza];by_cases h4:o.divs.els.length=0
  ·simp[h4]
  have h5:¬((o.divs.els.length:Int)=((0:Nat):Int)):=by omega
  by_cases h6:8<o.divs.els.length
  ·grind
  have h7:¬((8:Int)<(o.divs.els.length:Int)):=by omega
  obtain⟨m2,l2⟩:=zz0 k o ho (by omega) o.divs.els 0 [] rfl;simp only[List.take_zero,List.map_nil]at l2;rw[show ocL enK (grow ([]:List (Int×Int)))=none from rfl]at l2;have h9:((o.divs.els.length:Int)==0)=false:=by grind
  simp only[h4,h6,h7,h9,decide_false,Yzh,if_false];rw[l2];by_cases h8:zaY o.ranks o.divs.els []≠0
  ·simp_all
  have cc:=t54 (k+4) (grow (o.divs.els.map keyOf)) o.cpls (by grind[zK]) ho.cl;simp_all[zK,zps]
end Go.Proofs.Tryz.Kn
end
section
namespace Go.Proofs.Tryz.Kn
open Go Go.CE Go.PE
structure RPl where
 tone:Nat
 feet:Nat
 first:Int
 pipes:Nat
 w0:Nat
 w1:Nat
 w2:Nat
 w3:Nat
 w4:Nat
structure RPl.ok (r:RPl):Prop where
 tone:r.tone<256
 feet:r.feet<256
 f1:-128≤r.first
 f2:r.first≤127
 pipes:r.pipes<256
 w0:r.w0<256
 w1:r.w1<256
 w2:r.w2<256
 w3:r.w3<256
 w4:r.w4<256
def zf0(r:RPl):List DV:=[U8 (r.tone:Int),U8 (r.feet:Int),.int .i8 r.first,U8 (r.pipes:Int),U8 (r.w0:Int),U8 (r.w1:Int),U8 (r.w2:Int),U8 (r.w3:Int),U8 (r.w4:Int)]
structure Pul where
 rank:Nat
 feet:Nat
 kind:Nat
 at_:Nat
structure Pul.ok (x:Pul):Prop where
 rank:x.rank<256
 feet:x.feet<256
 kind:x.kind<256
 at_:x.at_<256
def ziQ(x:Pul):List DV:=[U8 (x.rank:Int),U8 (x.feet:Int),U8 (x.kind:Int),U8 (x.at_:Int)]
structure Boa where
 low:Nat
 keys:Nat
 pedal:Bool
 stops:Sl Pul
structure Boa.ok (b:Boa):Prop where
 low:b.low<256
 keys:b.keys<256
 len:b.stops.els.length≤9223372036854775807
 stops:∀x∈b.stops.els,x.ok
def kZ(b:Boa):List DV:=[U8 (b.low:Int),U8 (b.keys:Int),Bo b.pedal,enL 4 ziQ b.stops]
structure Lnk where
 src:Nat
 dst:Nat
 shift:Int
 thr:Bool
structure Lnk.ok (l:Lnk):Prop where
 src:l.src<256
 dst:l.dst<256
 s1:-128≤l.shift
 s2:l.shift≤127
def zl7(l:Lnk):List DV:=[U8 (l.src:Int),U8 (l.dst:Int),.int .i8 l.shift,Bo l.thr]
structure Pln where
 ranks:Sl RPl
 divs:Sl Boa
 cpls:Sl Lnk
structure Pln.ok (p:Pln):Prop where
 rl:p.ranks.els.length≤9223372036854775807
 ranks:∀x∈p.ranks.els,x.ok
 dl:p.divs.els.length≤9223372036854775807
 divs:∀x∈p.divs.els,x.ok
 cl:p.cpls.els.length≤9223372036854775807
 cpls:∀x∈p.cpls.els,x.ok
def zf1(p:Pln):List DV:=[enL 9 zf0 p.ranks,enL 4 kZ p.divs,enL 4 zl7 p.cpls]
def zl2(l:List Boa):Bool:=l.all fun b=>decide (b.stops.els.length≤3)
def zfP(p:Pln):Bool:=decide (1≤p.ranks.els.length)&&decide (p.ranks.els.length≤3)&&decide (1≤p.divs.els.length)&&decide (p.divs.els.length≤3)&&decide (p.cpls.els.length≤3)&&zl2 p.divs.els
theorem l6(l:Sl Boa)(hl:l.els.length≤9223372036854775807):∀(r:List Boa) (i:Nat),l.els.drop i=r→
  zA (zpE (enL 4 kZ l)) [I6 (i:Int)] []=some (if zl2 r then(.exit 0,[],[]) else(.ret,[Bo false],[])):=by
 intro r
 induction r with
 |nil=>
  intro i h;refine zu ?_
  grind[zpE,zz,zD,zj,zb,xY,ya,zn]
 |cons x r ih=>
  intro i h;have h1:=yH h;have ea:zc .add (I6 (i:Int)) (I6 1)=some (I6 ((i+1:Nat):Int)):=yQ;have body:zpE (enL 4 kZ l) [I6 (i:Int)] []=some (if x.stops.els.length≤3 then(.normal,[I6 ((i+1:Nat):Int)],[]) else(.ret,[Bo false],[])):=by
   simp only[zpE,zz,zD,zj,zb,jX h1,zn,if_true,yc h,kZ,xE,vh,yE,ea]
   grind
  by_cases hc:x.stops.els.length≤3
  ·rw[Yzd hc]at body;rw[zH body,ih (i+1) (zP h)];grind[zl2]
  ·rw[Yzb hc]at body;grind[zB,zl2]
theorem t6(k:Nat)(p:Pln)(hp:p.ok):D (k+1) 6 [SA (zf1 p)]=some (S1 (Bo (zfP p))):=by
 have l:=l6 p.divs hp.dl p.divs.els 0 rfl;unfold zf1;rw[D6];unfold P6 zfP;simp only[zD,zb,zj,yE,zn,YzD];rw[show (I6 0:DV)=I6 ((0:Nat):Int) from rfl,l];by_cases h1:1≤p.ranks.els.length
 ·have g1:¬((p.ranks.els.length:Int)<1):=by omega
  by_cases h2:p.ranks.els.length≤3
  ·have g2:¬((3:Int)<(p.ranks.els.length:Int)):=by omega
   by_cases h3:1≤p.divs.els.length
   ·have g3:¬((p.divs.els.length:Int)<1):=by omega
    by_cases h4:p.divs.els.length≤3
    ·have g4:¬((3:Int)<(p.divs.els.length:Int)):=by omega
     by_cases h5:p.cpls.els.length≤3
     ·have g5:¬((3:Int)<(p.cpls.els.length:Int)):=by omega
      simp only[Yzb g1,Yzb g2,Yzb g3,Yzb g4,Yzb g5,decide_eq_true h1,decide_eq_true h2,decide_eq_true h3,decide_eq_true h4,decide_eq_true h5,Yye];cases zl2 p.divs.els<;>rfl
     ·grind
    ·grind
   ·grind
  ·grind
 ·grind
theorem zj3{α:Type}(f:α→List DV)(l:List α)(i:Nat):jW (some (l.map f)) i=(l[i]?).map f:=by show (l.map f)[i]? = _;rw[Lz6]
theorem t47(k:Nat)(n:Nat):D (k+1) 47 [S1 (U8 (n:Int))]=some (SA (enF (fA n))):=by
 rw[D47];unfold P47;have e:zc .rem (U8 (n:Int)) (U8 16)=some (U8 ((n % 16:Nat):Int)):=zlq (b:=16) (by decide);have i:xe (some (feetA.map enF)) (U8 ((n % 16:Nat):Int))=some (n % 16):=jC (by rw[Yzj];exact Yz6 _ (by decide));have j:jW (some (feetA.map enF)) (n % 16)=some (enF (fA n)):=by grind[zj3,zsp]
 rw[e,zb];refine (congrArg (za · _) i).trans ?_;rw[zb];refine (congrArg (za · _) j).trans ?_;rfl
theorem t48(k:Nat)(n:Nat):D (k+1) 48 [S1 (U8 (n:Int))]=some (SA (enF (fB n))):=by
 rw[D48];unfold P48;have e:zc .rem (U8 (n:Int)) (U8 6)=some (U8 ((n % 6:Nat):Int)):=zlq (b:=6) (by decide);have i:xe (some (feetB.map enF)) (U8 ((n % 6:Nat):Int))=some (n % 6):=jC (by rw[Yzj];exact Yz6 _ (by decide));have j:jW (some (feetB.map enF)) (n % 6)=some (enF (fB n)):=by grind[zj3,zsn]
 rw[e,zb];refine (congrArg (za · _) i).trans ?_;rw[zb];refine (congrArg (za · _) j).trans ?_;rfl
def pre(c:UInt8)(i:Nat):ByteArray:=⟨#[c]⟩++zcK [48+(i:Int)] ByteArray.empty
theorem zfa(c:UInt8)(i:Nat):znx .add (.str ⟨#[c]⟩) (.str (zcK [48+(i:Int)] ByteArray.empty))=some (St (pre c i)):=rfl
theorem zcf(i:Nat):znE (.lst 1 [[U8 (48+(i:Int))]])=some (St (zcK [48+(i:Int)] ByteArray.empty)):=rfl
def zk1:Nat→ByteArray
 |0=>⟨#[79,112,101,110]⟩
 |1=>⟨#[70,108,117,116,101]⟩
 |_=>⟨#[82,101,101,100]⟩
def wAt(r:RPl):Nat→Nat
 |0=>r.w0
 |1=>r.w1
 |2=>r.w2
 |3=>r.w3
 |_=>r.w4
def jY(r:RPl)(n:Nat):List Int:=(List.range n).map fun k=>((wAt r (k % 5):Nat):Int)
theorem zdW(r:RPl)(n:Nat):jY r (n+1)=jY r n++[((wAt r (n % 5):Nat):Int)]:=by grind[jY,List.range_succ]
theorem zcv(r:RPl)(n:Nat):(jY r n).length=n:=by simp[jY]
theorem zrT{r:RPl}(h:r.ok)(i:Nat):wAt r i<256:=by
 unfold wAt;split
 ·exact h.w0
 ·exact h.w1
 ·exact h.w2
 ·exact h.w3
 ·exact h.w4
def zq7(i:Nat)(r:RPl):Zj:=⟨pre 82 (i % 10),zk1 (r.tone % 3),(fA r.feet).1,(fA r.feet).2,r.first,some (jY r (1+r.pipes % 25))⟩
theorem l25(r:RPl)(hr:r.ok)(c0 c1 c2 c3 c4:DV):∀(m j:Nat),j+m=1+r.pipes % 25→
  zA (zhG (U8 (r.pipes:Int)) (U8 (r.w0:Int)) (U8 (r.w1:Int)) (U8 (r.w2:Int)) (U8 (r.w3:Int)) (U8 (r.w4:Int))) [I6 (j:Int),c0,c1,c2,c3,c4] [ocL enW (grow (jY r j))] =
   some (.exit 0,[c0,c1,c2,c3,c4],[ocL enW (grow (jY r (1+r.pipes % 25)))]):=by
 have e1:zc .rem (U8 (r.pipes:Int)) (U8 25)=some (U8 ((r.pipes % 25:Nat):Int)):=zlq (b:=25) (by decide);have hm:r.pipes % 25<25:=Yz6 _ (by omega);have e2:xx .i64 (U8 ((r.pipes % 25:Nat):Int))=some (I6 ((r.pipes % 25:Nat):Int)):=qN;have e3:zc .add (I6 1) (I6 ((r.pipes % 25:Nat):Int))=some (I6 ((1+r.pipes % 25:Nat):Int)):=by grind[yQ]
 intro m
 induction m with
 |zero=>
  intro j hj;refine zu ?_;have hj':j=1+r.pipes % 25:=by omega
  subst hj';have:decide (((1+r.pipes % 25:Nat):Int)<((1+r.pipes % 25:Nat):Int))=false:=xY (by omega);simp_all[zhG]
 |succ m ih=>
  intro j hj;have hlt:decide ((j:Int)<((1+r.pipes % 25:Nat):Int))=true:=jX (by omega);have ea:zc .add (I6 (j:Int)) (I6 1)=some (I6 ((j+1:Nat):Int)):=yQ;have eb:zc .rem (I6 (j:Int)) (I6 5)=some (I6 ((j % 5:Nat):Int)):=zlq (b:=5) (by decide);have h5:j % 5<5:=Yz6 _ (by omega);have en:jV 5 (I6 ((j % 5:Nat):Int))=some (j % 5):=zjT h5;have hw:=zrT hr (j % 5);have ew:atD [U8 (r.w0:Int),U8 (r.w1:Int),U8 (r.w2:Int),U8 (r.w3:Int),U8 (r.w4:Int)] (j % 5)=U8 ((wAt r (j % 5):Nat):Int):=by
   have:j % 5=0∨j % 5=1∨j % 5=2∨j % 5=3∨j % 5=4:=by omega
   rcases this with h|h|h|h|h<;>rw[h]<;>rfl
  have ec:xx .i64 (U8 ((wAt r (j % 5):Nat):Int))=some (I6 ((wAt r (j % 5):Nat):Int)):=qN;have ef:fits 8 ((grow (jY r j)).els.length+1)=true:=wH (by decide) (by grind[zK,zcv]);have body:zhG (U8 (r.pipes:Int)) (U8 (r.w0:Int)) (U8 (r.w1:Int)) (U8 (r.w2:Int)) (U8 (r.w3:Int)) (U8 (r.w4:Int)) [I6 (j:Int),c0,c1,c2,c3,c4] [ocL enW (grow (jY r j))] =
    some (.normal,[I6 ((j+1:Nat):Int),c0,c1,c2,c3,c4],[ocL enW (grow (jY r (j+1)))]):=by
   rw[zdW,wi];simp_all[zhG,vJ]
  grind[zH]
theorem t25(k:Nat)(i:Nat)(hi:i<10)(r:RPl)(hr:r.ok):D (k+2) 25 [SA (zf0 r),S1 (I6 (i:Int))]=some (SA (enR (zq7 i r))):=by
 unfold zf0;rw[D25];unfold P25;have e1:zc .rem (I6 (i:Int)) (I6 10)=some (I6 ((i % 10:Nat):Int)):=zlq (b:=10) (by decide);have h10:i % 10<10:=Yz6 _ (by decide);have e2:zc .add (I6 48) (I6 ((i % 10:Nat):Int))=some (I6 (48+((i % 10:Nat):Int))):=yQ;have e3:xx .u8 (I6 (48+((i % 10:Nat):Int)))=some (U8 (48+((i % 10:Nat):Int))):=by
  show some (DV.int .u8 (wB .u8 (48+((i % 10:Nat):Int))))=_
  grind[zpY]
 have e4:zc .rem (U8 (r.tone:Int)) (U8 3)=some (U8 ((r.tone % 3:Nat):Int)):=zlq (b:=3) (by decide);have e5:xx .i64 (.int .i8 r.first)=some (I6 r.first):=by
  have:=hr.f1;have:=hr.f2
  exact qN
 have l:=l25 r hr (St (pre 82 (i % 10))) (St (zk1 (r.tone % 3))) (I6 (fA r.feet).1) (I6 (fA r.feet).2) (I6 r.first) (1+r.pipes % 25) 0 (by omega);rw[show ocL enW (grow (jY r 0))=none from rfl]at l;have hg:grow (jY r (1+r.pipes % 25))=some (jY r (1+r.pipes % 25)):=by grind[zdW,wi,zK]
 rw[hg]at l;have h3:r.tone % 3=0∨r.tone % 3=1∨r.tone % 3=2:=by omega
 have et:za (xe (some [[(.str ⟨#[79,112,101,110]⟩)],[(.str ⟨#[70,108,117,116,101]⟩)],[(.str ⟨#[82,101,101,100]⟩)]]) (U8 ((r.tone % 3:Nat):Int))) (fun n6=>jW (some [[(.str ⟨#[79,112,101,110]⟩)],[(.str ⟨#[70,108,117,116,101]⟩)],[(.str ⟨#[82,101,101,100]⟩)]]) n6)=some [St (zk1 (r.tone % 3))]:=by rcases h3 with h|h|h<;>rw[h]<;>rfl
 have eu:∀{β:Type} (K:List DV→Option β),za (xe (some [[(.str ⟨#[79,112,101,110]⟩)],[(.str ⟨#[70,108,117,116,101]⟩)],[(.str ⟨#[82,101,101,100]⟩)]]) (U8 ((r.tone % 3:Nat):Int))) (fun n6=>za (jW (some [[(.str ⟨#[79,112,101,110]⟩)],[(.str ⟨#[70,108,117,116,101]⟩)],[(.str ⟨#[82,101,101,100]⟩)]]) n6) K)=K [St (zk1 (r.tone % 3))]:=by intro β K;rcases h3 with h|h|h<;>rw[h]<;>rfl
 have c:=t47 k r.feet;simp only[e1,e2,e3,e4,zb,zcf,zfa];rw[eu];rw[c];unfold enF;rw[zAG (show[I6 (fA r.feet).1,I6 (fA r.feet).2].length=2 from rfl)];simp only[e5,zb,xE,vh];rw[show (I6 0:DV)=I6 ((0:Nat):Int) from rfl,l];rfl
end Go.Proofs.Tryz.Kn
end
section
namespace Go.Proofs.Tryz.Kn
open Go Go.CE Go.PE
theorem bT2{β:Type}(a b:DV)(K:List DS→Option β):bT [none,none] (some (.tup [.one a,.one b])) K=K [.one a,.one b]:=rfl
def zgp(rs:List Zj)(i:Nat):Zj:=(rs[i]?).getD ⟨ByteArray.empty,ByteArray.empty,8,1,0,none⟩
theorem ze1{rs:List Zj}{i:Nat}(h:i<rs.length):rs[i]? = some (zgp rs i):=by grind[zgp]
theorem zap{rs:List Zj}{i:Nat}(h:i<rs.length):zgp rs i∈rs:=Lz3 (ze1 h)
def xV(low high:Int)(n:Int)(sh:Int)(m:Int)(sh2:Int)(at_:Int):Nat→List Seg
 |2=>[⟨low,high,some [⟨n,sh⟩,⟨n,sh+7⟩]⟩]
 |3=>if low<at_ then[⟨low,at_-1,some [⟨n,sh⟩]⟩,⟨at_,high,some [⟨m,sh2⟩]⟩] else[⟨at_,high,some [⟨m,sh2⟩]⟩]
 |4=>if low<at_ then[⟨low,at_-1,some [⟨n,sh⟩]⟩,⟨at_,high,some [⟨n,sh-12⟩]⟩] else[⟨at_,high,some [⟨n,sh-12⟩]⟩]
 |5=>[⟨at_,high,some [⟨n,sh⟩]⟩]
 |_=>[⟨low,high,some [⟨n,sh⟩]⟩]
def rkF(r:Zj):Int×Int:=(r.num,r.den)
def qI(rs:List Zj)(low high:Int)(i:Nat)(x:Pul):Zr:=
 ⟨pre 83 i, (fB x.feet).1, (fB x.feet).2, some (xV low high ((x.rank % rs.length : Nat) : Int) (shf (fB x.feet) (rkF (zgp rs (x.rank % rs.length)))) (((x.rank % rs.length + 1) % rs.length : Nat) : Int)
  (shf (fB x.feet) (rkF (zgp rs ((x.rank % rs.length+1) % rs.length)))) (low+((x.at_:Int).tmod (high-low+1))) (x.kind % 6))⟩
theorem t26(k:Nat)(rs:List Zj)(hl:0<rs.length)(hl3:rs.length≤1000)(hf:∀r∈rs,rkF r∈feetA)(low high:Int)(h0:0≤low)(h1:low≤high)(h2:high≤1000)(x:Pul)(hx:x.ok)(i:Nat)(hi:i<10):
  D (k+6) 26 [S1 (enL 6 enR (some rs)),SA [I6 low,I6 high],SA (ziQ x),S1 (I6 (i:Int))]=some (SA (vB (qI rs low high i x))):=by
 unfold ziQ;rw[D26];unfold P26 qI;have hn:x.rank % rs.length<rs.length:=Yz6 _ hl;have hm:(x.rank % rs.length+1) % rs.length<rs.length:=Yz6 _ hl;generalize hN:x.rank % rs.length=n at hn hm;generalize hM:(n+1) % rs.length=m at hm;have e0:xx .i64 (U8 (x.rank:Int))=some (I6 (x.rank:Int)):=by have:=hx.rank;exact qN
 have e1:zc .rem (I6 (x.rank:Int)) (I6 (rs.length:Int))=some (I6 (n:Int)):=by grind[zlq]
 have e2:zc .add (I6 48) (I6 (i:Int))=some (I6 (48+(i:Int))):=yQ;have e3:xx .u8 (I6 (48+(i:Int)))=some (U8 (48+(i:Int))):=by
  show some (DV.int .u8 (wB .u8 (48+(i:Int))))=_
  grind[zpY]
 have c1:=t48 (k+4) x.feet;have ix:yW 6 (enL 6 enR (some rs)) (I6 (n:Int))=some (enR (zgp rs n)):=by grind[jB,ze1]
 have ix2:yW 6 (enL 6 enR (some rs)) (I6 (m:Int))=some (enR (zgp rs m)):=by grind[jB,ze1]
 have s1:=t49 k (fB x.feet) (rkF (zgp rs n)) (zeB _) (hf _ (zap hn));have s2:=t49 k (fB x.feet) (rkF (zgp rs m)) (zeB _) (hf _ (zap hm));have b1:=zm0 (fB x.feet) (rkF (zgp rs n)) (zeB _) (hf _ (zap hn));generalize shf (fB x.feet) (rkF (zgp rs n))=sh at s1 b1 ⊢;generalize shf (fB x.feet) (rkF (zgp rs m))=sh2 at s2 ⊢;unfold rkF enF at s1 s2;unfold enF at c1;generalize (fB x.feet).1=u at c1 s1 s2 ⊢;generalize (fB x.feet).2=v at c1 s1 s2 ⊢;simp only at s1 s2;have e4:xx .i64 (U8 (x.at_:Int))=some (I6 (x.at_:Int)):=by have:=hx.at_;exact qN
 have e5:zc .sub (I6 high) (I6 low)=some (I6 (high-low)):=zmK;have e6:zc .add (I6 (high-low)) (I6 1)=some (I6 (high-low+1)):=yQ;have e7:zc .rem (I6 (x.at_:Int)) (I6 (high-low+1))=some (I6 ((x.at_:Int).tmod (high-low+1))):=zcc _ _ _ (by omega);have hq:0≤(x.at_:Int).tmod (high-low+1)∧(x.at_:Int).tmod (high-low+1)<high-low+1:=⟨Int.tmod_nonneg _ (by omega),Int.tmod_lt_of_pos _ (by omega)⟩;generalize (x.at_:Int).tmod (high-low+1)=q at e7 hq ⊢;have e8:zc .add (I6 low) (I6 q)=some (I6 (low+q)):=yQ;have e9:zc .rem (U8 (x.kind:Int)) (U8 6)=some (U8 ((x.kind % 6:Nat):Int)):=zlq (b:=6) (by decide);have e10:zc .add (I6 sh) (I6 7)=some (I6 (sh+7)):=yQ;have e11:zc .sub (I6 sh) (I6 12)=some (I6 (sh-12)):=zmK;have e12:zc .add (I6 (n:Int)) (I6 1)=some (I6 ((n+1:Nat):Int)):=yQ;have e13:zc .rem (I6 ((n+1:Nat):Int)) (I6 (rs.length:Int))=some (I6 (m:Int)):=by rw[←hM];exact zlq (by omega)
 have e14:zc .sub (I6 (low+q)) (I6 1)=some (I6 (low+q-1)):=zmK;have f1:fits 40 1=true:=by decide
 have f2:fits 40 2=true:=by decide
 have hk:x.kind % 6<6:=Yz6 _ (by decide);generalize x.kind % 6=kd at e9 hk ⊢;have b2:∀{β:Type} (a b:DV) (K:List DV→Option β),bA 2 (some (SA [a,b])) K=K [a,b]:=fun _ _ _=>rfl;simp only[e0,zb,zD,xw,e1,e2,e3,zcf,zfa,c1,b2,xE,vh,ix,enR,s1,bT2,zkB,zf3,e4,e5,e6,e7,e8,e9,zO,yE,zn,e10,e11,e12,e13,ix2,s2,e14];have hkd:kd=0∨kd=1∨kd=2∨kd=3∨kd=4∨kd=5:=by omega
 rcases hkd with h|h|h|h|h|h<;>subst h
 ·rfl
 ·rfl
 ·rfl
 ·by_cases hb:low<low+q
  ·simp only[xV,Yzd hb,decide_eq_true hb];rfl
  ·simp only[xV,Yzb hb,decide_eq_false hb];rfl
 ·by_cases hb:low<low+q
  ·simp only[xV,Yzd hb,decide_eq_true hb];rfl
  ·simp only[xV,Yzb hb,decide_eq_false hb];rfl
 ·rfl
def vL:Nat→List RPl→List Zj
 |_,[]=>[]
 |i,r::l=>zq7 i r::vL (i+1) l
def wR(rs:List Zj)(low high:Int):Nat→List Pul→List Zr
 |_,[]=>[]
 |i,x::l=>qI rs low high i x::wR rs low high (i+1) l
def zg3(b:Boa):Int:=36+((b.low % 12:Nat):Int)
def zdf(b:Boa):Int:=zg3 b+((b.keys % 9:Nat):Int)
def zgY(rs:List Zj)(i:Nat)(b:Boa):Zo:=⟨pre 68 i,b.pedal,zg3 b,zdf b,grow (wR rs (zg3 b) (zdf b) 0 b.stops.els)⟩
def uu(rs:List Zj):Nat→List Boa→List Zo
 |_,[]=>[]
 |i,b::l=>zgY rs i b::uu rs (i+1) l
def qX(n:Nat)(i:Nat)(l:Lnk):Cpl:=
 ⟨pre 67 i,((l.src % n:Nat):Int),((l.dst % n:Nat):Int),if ((l.src % n:Nat):Int)=((l.dst % n:Nat):Int)∧l.shift.tmod 25=0 then 12 else l.shift.tmod 25,l.thr⟩
def zaD(n:Nat):Nat→List Lnk→List Cpl
 |_,[]=>[]
 |i,c::l=>qX n i c::zaD n (i+1) l
def zgO:ByteArray:=⟨#[79,114,103,97,110]⟩
def zmp(p:Pln):Org:=⟨zgO,grow (vL 0 p.ranks.els),grow (uu (vL 0 p.ranks.els) 0 p.divs.els),grow (zaD p.divs.els.length 0 p.cpls.els)⟩
theorem zaC:∀(l:List RPl) (i:Nat),(vL i l).length=l.length
 | [],_=>rfl
 |_::l,i=>by simp[vL,zaC l]
theorem zbl:∀(l:List RPl) (i:Nat),∀r∈vL i l,rkF r∈feetA
 | [],_,_,h=>by cases h
 |x::l,i,r,h=>by
  rcases Yzw.1 h with rfl|h
  ·exact zso x.feet
  ·exact zbl l _ r h
theorem zCk(k:Nat)(l:Sl RPl)(hl:l.els.length≤3)(hr:∀x∈l.els,x.ok)(nm:DV):∀(r:List RPl) (i:Nat) (acc:List Zj),l.els.drop i=r→acc.length=i→
  zA (zyt (D (k+2)) (enL 9 zf0 l)) [I6 (i:Int),nm] [ocL enR (grow acc),none,none]=some (.exit 0,[nm],[ocL enR (grow (acc++vL i r)),none,none]):=by
 intro r
 induction r with
 |nil=>grind[zu,zyt,zz,yF,yM,zbL,zD,zj,zb,xY,ya,zn,vL]
 |cons x r ih=>
  intro i acc h ha;have h1:=yH h;have ea:zc .add (I6 (i:Int)) (I6 1)=some (I6 ((i+1:Nat):Int)):=yQ;have c:=t25 k i (by omega) x (hr x (Lz3 (xa h)));have ef:fits 80 ((grow acc).els.length+1)=true:=wH (by decide) (by grind[zK]);have b6:∀{β:Type} (K:List DV→Option β),bA 6 (some (SA (enR (zq7 i x)))) K=K (enR (zq7 i x)):=fun _=>rfl;have body:zyt (D (k+2)) (enL 9 zf0 l) [I6 (i:Int),nm] [ocL enR (grow acc),none,none]=some (.normal,[I6 ((i+1:Nat):Int),nm],[ocL enR (grow (acc++[zq7 i x])),none,none]):=by rw[wi];unfold zf0 at c;simp only[zyt,zz,yF,yM,zbL,zD,zj,zb,jX h1,zn,if_true,yc h,zf0,xE,vh,c,b6,xZ,Yzm,YzJ,ef,kR,ea,x9];rw[←vJ (f:=enR)];rfl
  rw[zH body,ih (i+1) _ (zP h) (by simp[ha])];simp[vL]
theorem zz2(k:Nat)(rs:List Zj)(hl:0<rs.length)(hl3:rs.length≤1000)(hf:∀r∈rs,rkF r∈feetA)(b:Boa)(hb:b.ok)(h3:b.stops.els.length≤3)(low high:Int)(h0:0≤low)(h1:low≤high)(h2:high≤1000)(d0 d1 c0 c1:DV):
  ∀(r:List Pul) (i:Nat) (acc:List Zr),b.stops.els.drop i=r→acc.length=i→
  zA (zpC (D (k+6)) (kZ b) [d0,d1,enL 6 enR (some rs)]) [I6 (i:Int),c0,c1,I6 low,I6 high] [ocL vB (grow acc)]=some (.exit 4,[c0,c1,I6 low,I6 high],[ocL vB (grow (acc++wR rs low high i r))]):=by
 intro r
 induction r with
 |nil=>intro i acc h _;refine zu ?_;simp only[zpC,kZ,xE,vh,zz,yF,yM,zD,zj,zb,xY (ya h),zn,wR,Yz5];rfl
 |cons x r ih=>
  intro i acc h ha;have hlt:=yH h;have ea:zc .add (I6 (i:Int)) (I6 1)=some (I6 ((i+1:Nat):Int)):=yQ;have c:=t26 k rs hl hl3 hf low high h0 h1 h2 x (hb.stops x (Lz3 (xa h))) i (by omega);have ef:fits 56 ((grow acc).els.length+1)=true:=wH (by decide) (by grind[zK]);have b4:∀{β:Type} (K:List DV→Option β),bA 4 (some (SA (vB (qI rs low high i x)))) K=K (vB (qI rs low high i x)):=fun _=>rfl;have body:zpC (D (k+6)) (kZ b) [d0,d1,enL 6 enR (some rs)] [I6 (i:Int),c0,c1,I6 low,I6 high] [ocL vB (grow acc)]=some (.normal,[I6 ((i+1:Nat):Int),c0,c1,I6 low,I6 high],[ocL vB (grow (acc++[qI rs low high i x]))]):=by rw[wi];unfold ziQ at c;simp only[zpC,kZ,zz,yF,yM,zD,zj,zb,jX hlt,zn,if_true,xE,vh,yc h,ziQ,c,b4,xZ,Yzm,YzJ,ef,kR,ea,x9];rw[←vJ (f:=vB)];rfl
  rw[zH body,ih (i+1) _ (zP h) (by simp[ha])];simp[wR]
theorem zix(b:Boa):36≤zg3 b∧zg3 b≤47:=by grind[zg3]
theorem zfL(b:Boa):zg3 b≤zdf b∧zdf b≤zg3 b+8:=by grind[zdf]
theorem zz3(k:Nat)(rs:List Zj)(hl:0<rs.length)(hl3:rs.length≤1000)(hf:∀r∈rs,rkF r∈feetA)(l:Sl Boa)(hll:l.els.length≤3)(hb:∀b∈l.els,b.ok)(h3:∀b∈l.els,b.stops.els.length≤3)(nm:DV):
  ∀(r:List Boa) (i:Nat) (acc:List Zo),l.els.drop i=r→acc.length=i→
  zA (zpD (D (k+6)) (enL 4 kZ l)) [I6 (i:Int),nm,enL 6 enR (some rs)] [ocL enV (grow acc),none]=some (.exit 2,[nm,enL 6 enR (some rs)],[ocL enV (grow (acc++uu rs i r)),none]):=by
 intro r
 induction r with
 |nil=>grind[zu,zpD,zz,yF,yM,zbL,zD,zj,zb,xY,ya,zn,uu]
 |cons b r ih=>
  intro i acc h ha;have hlt:=yH h;have hmem:=Lz3 (xa h);have ea:zc .add (I6 (i:Int)) (I6 1)=some (I6 ((i+1:Nat):Int)):=yQ;have hlow:=zix b;have hhigh:=zfL b;have e1:zc .rem (U8 (b.low:Int)) (U8 12)=some (U8 ((b.low % 12:Nat):Int)):=zlq (b:=12) (by decide);have e2:xx .i64 (U8 ((b.low % 12:Nat):Int))=some (I6 ((b.low % 12:Nat):Int)):=qN;have e3:zc .add (I6 36) (I6 ((b.low % 12:Nat):Int))=some (I6 (zg3 b)):=yQ;have e4:zc .add (I6 48) (I6 (i:Int))=some (I6 (48+(i:Int))):=yQ;have e5:xx .u8 (I6 (48+(i:Int)))=some (U8 (48+(i:Int))):=by show some (DV.int .u8 (wB .u8 (48+(i:Int))))=_;rw[zpY];congr 2;omega
  have e6:zc .rem (U8 (b.keys:Int)) (U8 9)=some (U8 ((b.keys % 9:Nat):Int)):=zlq (b:=9) (by decide);have e7:xx .i64 (U8 ((b.keys % 9:Nat):Int))=some (I6 ((b.keys % 9:Nat):Int)):=qN;have e8:zc .add (I6 (zg3 b)) (I6 ((b.keys % 9:Nat):Int))=some (I6 (zdf b)):=by have:zc .add (I6 (zg3 b)) (I6 ((b.keys % 9:Nat):Int))=some (I6 (zg3 b+((b.keys % 9:Nat):Int))):=yQ;exact this
  have ll:=zz2 k rs hl hl3 hf b (hb b hmem) (h3 b hmem) (zg3 b) (zdf b) (by omega) (by omega) (by omega) (I6 (i:Int)) nm (St (pre 68 i)) (Bo b.pedal) b.stops.els 0 [] rfl rfl;rw[show ocL vB (grow ([]:List Zr))=none from rfl,show (I6 ((0:Nat):Int):DV)=I6 0 from rfl,Yz0]at ll;have ef:fits 64 ((grow acc).els.length+1)=true:=wH (by decide) (by grind[zK]);have body:zpD (D (k+6)) (enL 4 kZ l) [I6 (i:Int),nm,enL 6 enR (some rs)] [ocL enV (grow acc),none]=some (.normal,[I6 ((i+1:Nat):Int),nm,enL 6 enR (some rs)],[ocL enV (grow (acc++[zgY rs i b])),none]):=by rw[wi];have ix:yW 4 (enL 4 kZ l) (I6 (i:Int))=some (kZ b):=yc h _;have q0:atD (kZ b) 0=U8 (b.low:Int):=rfl;have q1:atD (kZ b) 1=U8 (b.keys:Int):=rfl;have q2:atD (kZ b) 2=Bo b.pedal:=rfl;simp only[zpD,zz,yF,yM,zbL,zD,zj,zb,jX hlt,zn,if_true,ix,q0,q1,q2,e1,e2,e3,e4,e5,zcf,zfa,e6,e7,e8,ll,yq,Yzp,Yza,xZ,Yzm,YzJ,ef,kR,ea,x9,kK];rw[←vJ (f:=enV)];rfl
  rw[zH body,ih (i+1) _ (zP h) (by simp[ha])];simp[uu]
theorem zzZ(n:Nat)(hn:0<n)(hn3:n≤1000)(l:Sl Lnk)(hll:l.els.length≤3)(hb:∀b∈l.els,b.ok)(nm rk:DV)(dv:OC):
  ∀(r:List Lnk) (i:Nat) (acc:List Cpl),l.els.drop i=r→acc.length=i→
  zA (zpB (enL 4 zl7 l) (I6 (n:Int))) [I6 (i:Int),nm,rk] [dv,ocL enC (grow acc)]=some (.exit 6,[nm,rk],[dv,ocL enC (grow (acc++zaD n i r))]):=by
 intro r
 induction r with
 |nil=>grind[zu,zpB,zz,yF,yM,zbL,zD,zj,zb,xY,ya,zn,zaD]
 |cons b r ih=>
  intro i acc h ha;have hlt:=yH h;have hbb:=hb b (Lz3 (xa h));have ea:zc .add (I6 (i:Int)) (I6 1)=some (I6 ((i+1:Nat):Int)):=yQ;have e4:zc .add (I6 48) (I6 (i:Int))=some (I6 (48+(i:Int))):=yQ;have e5:xx .u8 (I6 (48+(i:Int)))=some (U8 (48+(i:Int))):=by show some (DV.int .u8 (wB .u8 (48+(i:Int))))=_;rw[zpY];congr 2;omega
  have g1:xx .i64 (U8 (b.src:Int))=some (I6 (b.src:Int)):=by have:=hbb.src;exact qN
  have g2:zc .rem (I6 (b.src:Int)) (I6 (n:Int))=some (I6 ((b.src % n:Nat):Int)):=zlq (by omega);have g3:xx .i64 (U8 (b.dst:Int))=some (I6 (b.dst:Int)):=by have:=hbb.dst;exact qN
  have g4:zc .rem (I6 (b.dst:Int)) (I6 (n:Int))=some (I6 ((b.dst % n:Nat):Int)):=zlq (by omega);have g5:xx .i64 (.int .i8 b.shift)=some (I6 b.shift):=by have:=hbb.s1;have:=hbb.s2;exact qN
  have g6:zc .rem (I6 b.shift) (I6 25)=some (I6 (b.shift.tmod 25)):=zcc _ _ _ (by decide);have ef:fits 48 ((grow acc).els.length+1)=true:=wH (by decide) (by grind[zK]);have body:zpB (enL 4 zl7 l) (I6 (n:Int)) [I6 (i:Int),nm,rk] [dv,ocL enC (grow acc)]=some (.normal,[I6 ((i+1:Nat):Int),nm,rk],[dv,ocL enC (grow (acc++[qX n i b]))]):=by
   rw[wi,←vJ (f:=enC)];simp only[zpB,zz,yF,yM,zbL,zD,zj,zb,jX hlt,zn,if_true,yc h,zl7,xE,vh,e4,e5,zcf,zfa,g1,g2,g3,g4,g5,g6,zO,xZ,Yzm,YzJ,ef,kR,ea,x9];unfold qX enC;by_cases h1:((b.src % n:Nat):Int)=((b.dst % n:Nat):Int)
   ·by_cases h2:b.shift.tmod 25=0<;>grind
   ·grind
  rw[zH body,ih (i+1) _ (zP h) (by simp[ha])];simp[zaD]
theorem zaR{p:Pln}(h:zfP p=true):1≤p.ranks.els.length∧p.ranks.els.length≤3∧1≤p.divs.els.length∧p.divs.els.length≤3∧p.cpls.els.length≤3∧∀b∈p.divs.els,b.stops.els.length≤3:=by simp_all[zfP,zl2]
theorem zfO{α:Type}{l:List α}(h:0<l.length):grow l=some l:=by cases l with|nil=>simp at h|cons _ _=>rfl
theorem t7(k:Nat)(p:Pln)(hp:p.ok)(hf:zfP p=true):D (k+7) 7 [SA (zf1 p)]=some (SA (enO (zmp p))):=by obtain⟨f1,f2,f3,f4,f5,f6⟩:=zaR hf;have hlen:(vL 0 p.ranks.els).length=p.ranks.els.length:=zaC _ _;have l2:=zCk (k+4) p.ranks f2 hp.ranks (St zgO) p.ranks.els 0 [] rfl rfl;have l12:=zz3 k (vL 0 p.ranks.els) (by omega) (by omega) (zbl _ _) p.divs f4 hp.divs f6 (St zgO) p.divs.els 0 [] rfl rfl;have l43:=zzZ p.divs.els.length (by omega) (by omega) p.cpls f5 hp.cpls (St zgO) (enL 6 enR (some (vL 0 p.ranks.els))) (ocL enV (grow (uu (vL 0 p.ranks.els) 0 p.divs.els))) p.cpls.els 0 [] rfl rfl;rw[show ocL enR (grow ([]:List Zj))=none from rfl,show (I6 ((0:Nat):Int):DV)=I6 0 from rfl,Yz0]at l2;rw[show ocL enV (grow ([]:List Zo))=none from rfl,show (I6 ((0:Nat):Int):DV)=I6 0 from rfl,Yz0]at l12;rw[show ocL enC (grow ([]:List Cpl))=none from rfl,show (I6 ((0:Nat):Int):DV)=I6 0 from rfl,Yz0]at l43;have hg:grow (vL 0 p.ranks.els)=some (vL 0 p.ranks.els):=zfO (by omega);unfold zf1;rw[D7];unfold P7 zmp enO;unfold zgO at l2 l12 l43;rw[hg]at l2 ⊢;simp only[l2,yq,Yzp,Yza,zz,yF,yM,zbL,kK,l12,zD,zb,l43];rfl
end Go.Proofs.Tryz.Kn
end
section
namespace Go.Proofs.Tryz.Kn
open Go Go.CE Go.PE
theorem zqW:([82,83,68,67].all fun c=>[0,1,2,3,4,5,6,7,8,9].all fun i=>isName (pre c i))=true:=by kernel_rfl
theorem qt{c:UInt8}(hc:c∈([82,83,68,67]:List UInt8)){i:Nat}(h:i<10):isName (pre c i)=true:=by
 have:=YzL.1 (YzL.1 zqW c hc) i;refine this ?_;have:i=0∨i=1∨i=2∨i=3∨i=4∨i=5∨i=6∨i=7∨i=8∨i=9:=by omega
 simp_all
theorem ztH:([82,83,68,67].all fun c=>[0,1,2].all fun i=>[0,1,2].all fun j=>Nat.beq i j || !eqB (pre c i) (pre c j))=true:=by kernel_rfl
theorem zfY{c:UInt8}(hc:c∈([82,83,68,67]:List UInt8)){i j:Nat}(hi:i<3)(hj:j<3)(h:i≠j):eqB (pre c i) (pre c j)=false:=by
 have hm:∀n<3,n∈([0,1,2]:List Nat):=by trivial
 have:=YzL.1 (YzL.1 (YzL.1 ztH c hc) i (hm i hi)) j (hm j hj);simp_all
theorem ziB(n:Nat):isName (zk1 n)=true:=by unfold zk1;split<;>rfl
theorem zk0(r:RPl)(hr:r.ok)(n:Nat):(jY r n).any wK=false:=by
 rw[List.any_eq_false];intro x hx;unfold jY at hx;obtain⟨k,_,rfl⟩:=List.mem_map.1 hx;have:=zrT hr (k % 5);unfold wK
 grind
theorem zog(i:Nat)(r:RPl)(hr:r.ok):y8 (zq7 i r)=0:=by
 have h1:=qt (c:=82) (by simp) (show i % 10<10 by omega);have h2:=zw4 _ (zso r.feet);have h3:=zk0 r hr (1+r.pipes % 25);have h4:=zcv r (1+r.pipes % 25);have:=hr.f1;have:=hr.f2
 have h5:decide (-256≤r.first)=true:=decide_eq_true (by omega);have h6:decide (r.first≤256)=true:=decide_eq_true (by omega);have h7:¬(1+r.pipes % 25=0):=by omega
 have h8:¬(128<1+r.pipes % 25):=by omega
 unfold y8 zq7;simp only[h1,ziB,h2,h5,h6,xw,h4,h3,h7,h8,Yyf,Yzh,if_false,Bool.and_self,ne_eq,not_true_eq_false]
theorem zic(l:List Zj)(h:∀r∈l,y8 r=0):vG l=0:=by induction l<;>simp_all[vG]
theorem zj7:∀(l:List RPl) (i:Nat),(∀r∈l,r.ok)→∀x∈vL i l,y8 x=0
 | [],_,_,_,h=>by cases h
 |r::l,i,H,x,h=>by
  rcases Yzw.1 h with rfl|h
  ·grind[zog]
  ·exact zj7 l _ (fun r hr=>H r (Yze _ hr)) x h
theorem zj8:∀(l:List RPl) (i:Nat),i+l.length≤3→(∀r∈l,r.ok)→j0 (vL i l) ((List.range i).map (pre 82))=0
 | [],_,_,_=>rfl
 |r::l,i,hl,H=>by
  simp only[Yzm]at hl;have h1:=zog i r (H r (Yzg ..));have hi:i % 10=i:=by omega
  have h2:((List.range i).map (pre 82)).any (eqB (zq7 i r).name)=false:=by
   rw[List.any_eq_false];intro s hs;obtain⟨j,hj,rfl⟩:=List.mem_map.1 hs;have hj:=List.mem_range.1 hj;have:=zfY (c:=82) (by simp) (show i<3 by omega) (show j<3 by omega) (by omega);show ¬eqB (pre 82 (i % 10)) (pre 82 j)=true
   grind
  unfold vL j0;rw[Yzb (by omega),Yzb (by grind)];have:(List.range i).map (pre 82)++[(zq7 i r).name]=(List.range (i+1)).map (pre 82):=by
   rw[List.range_succ,Yyi];show _++[pre 82 (i % 10)]=_
   grind
  rw[this];exact zj8 l (i+1) (by omega) fun r hr=>H r (Yze _ hr)
theorem zbM:∀(l:List RPl) (i:Nat),∀r∈vL i l,zec r
 | [],_,_,h=>by cases h
 |x::l,i,r,h=>by
  rcases Yzw.1 h with rfl|h
  ·show (jY x (1+x.pipes % 25)).length≤_
   grind[zcv]
  ·exact zbM l _ r h
theorem zac(n:Nat)(d:Zn)(h1:0≤d.rank)(h2:d.rank<(n:Int))(h3:-127≤d.shift)(h4:d.shift≤127):xi n [d]=0:=by simp_all[xi,zad,Yzb]
theorem ziS(n:Nat)(d e:Zn)(h1:0≤d.rank)(h2:d.rank<(n:Int))(h3:-127≤d.shift)(h4:d.shift≤127)(g1:0≤e.rank)(g2:e.rank<(n:Int))(g3:-127≤e.shift)(g4:e.shift≤127)(hne:e≠d):xi n [d,e]=0:=by simp_all[xi,zad,Yzb]
theorem zs3(x:Place)(hlow:0≤x.low)(hlh:x.low≤x.high)(n m:Int)(sh sh2 at_:Int)(h1:0≤n)(h2:n<(x.ranks.els.length:Int))(h3:0≤m)(h4:m<(x.ranks.els.length:Int))(s1:-100≤sh)(s2:sh≤100)(s3:-100≤sh2)(s4:sh2≤100)(a1:x.low≤at_)(a2:at_≤x.high)(kd:Nat):
  (xV x.low x.high n sh m sh2 at_ kd).length≠0∧(xV x.low x.high n sh m sh2 at_ kd).length≤12∧u5 x (xV x.low x.high n sh m sh2 at_ kd) none=0:=by
 have d1:=zac x.ranks.els.length ⟨n,sh⟩ h1 h2 (by grind) (by grind);have d2:=zac x.ranks.els.length ⟨m,sh2⟩ h3 h4 (by grind) (by grind);have d3:=zac x.ranks.els.length ⟨n,sh-12⟩ h1 h2 (by grind) (by grind);have d4:=ziS x.ranks.els.length ⟨n,sh⟩ ⟨n,sh+7⟩ h1 h2 (by grind) (by grind) h1 h2 (by grind) (by grind) (fun h=>by grind);have one:∀(lo hi:Int) (ds:List Zn) (p:Option Int) (r:List Seg),x.low≤lo→lo≤hi→hi≤x.high→leO lo p=false→xi x.ranks.els.length ds=0→u5 x (⟨lo,hi,some ds⟩::r) p=u5 x r (some hi):=by
  intro lo hi ds p r e1 e2 e3 e4 e5;rw[u5]
  grind
 unfold xV;split
 ·refine⟨by simp,by simp,?_⟩;rw[one _ _ _ _ _ (by omega) (by omega) (by omega) rfl d4];rfl
 ·by_cases hb:x.low<at_
  ·rw[Yzd hb];refine⟨by simp,by simp,?_⟩;rw[one _ _ _ _ _ (by omega) (by omega) (by omega) rfl d1,one _ _ _ _ _ (by omega) (by omega) (by omega) (by grind[leO]) d2];rfl
  ·rw[Yzb hb];refine⟨by simp,by simp,?_⟩;rw[one _ _ _ _ _ (by omega) (by omega) (by omega) rfl d2];rfl
 ·by_cases hb:x.low<at_
  ·rw[Yzd hb];refine⟨by simp,by simp,?_⟩;rw[one _ _ _ _ _ (by omega) (by omega) (by omega) rfl d1,one _ _ _ _ _ (by omega) (by omega) (by omega) (by grind[leO]) d3];rfl
  ·rw[Yzb hb];refine⟨by simp,by simp,?_⟩;rw[one _ _ _ _ _ (by omega) (by omega) (by omega) rfl d3];rfl
 ·refine⟨by simp,by simp,?_⟩;rw[one _ _ _ _ _ (by omega) (by omega) (by omega) rfl d1];rfl
 ·refine⟨by simp,by simp,?_⟩;rw[one _ _ _ _ _ (by omega) (by omega) (by omega) rfl d1];rfl
theorem zoe(rs:List Zj)(hl:0<rs.length)(hl3:rs.length≤60)(hr:∀r∈rs,y8 r=0)(hf:∀r∈rs,rkF r∈feetA)(low high:Int)(h0:0≤low)(h1:low≤high)(h2:high≤127)(i:Nat)(hi:i<10)(x:Pul):uB ⟨some rs,low,high⟩ (qI rs low high i x)=0:=by
 have p1:js ⟨some rs,low,high⟩=0:=by unfold js;rw[Yzb (by grind),Yzb (by rw[show Sl.els (Place.mk (some rs) low high).ranks=rs from rfl,zic rs hr];simp)];simp_all[right,Yzb]
 have hn:x.rank % rs.length<rs.length:=Yz6 _ hl;have hm:(x.rank % rs.length+1) % rs.length<rs.length:=Yz6 _ hl;have b1:=zm0 (fB x.feet) (rkF (zgp rs (x.rank % rs.length))) (zeB _) (hf _ (zap hn));have b2:=zm0 (fB x.feet) (rkF (zgp rs ((x.rank % rs.length+1) % rs.length))) (zeB _) (hf _ (zap hm));have hq:0≤(x.at_:Int).tmod (high-low+1)∧(x.at_:Int).tmod (high-low+1)<high-low+1:=⟨Int.tmod_nonneg _ (by omega),Int.tmod_lt_of_pos _ (by omega)⟩;obtain⟨s1,s2,s3⟩:=zs3 ⟨some rs,low,high⟩ h0 h1 ((x.rank % rs.length:Nat):Int) (((x.rank % rs.length+1) % rs.length:Nat):Int) (shf (fB x.feet) (rkF (zgp rs (x.rank % rs.length)))) (shf (fB x.feet) (rkF (zgp rs ((x.rank % rs.length+1) % rs.length)))) (low+((x.at_:Int).tmod (high-low+1)))
  (by omega) (by grind) (by omega) (by grind) b1.1 b1.2 b2.1 b2.2 (by grind) (by grind) (x.kind % 6)
 unfold uB qI;rw[Yzb (by omega),Yzb (by grind[qt]),Yzb (by grind[zw3,zeB]),Yzb (by trivial),Yzb (by grind)];exact s3
theorem zem(rs:List Zj)(hl:0<rs.length)(hl3:rs.length≤60)(hr:∀r∈rs,y8 r=0)(hf:∀r∈rs,rkF r∈feetA)(low high:Int)(h0:0≤low)(h1:low≤high)(h2:high≤127):
  ∀(l:List Pul) (i:Nat),i+l.length≤3→qS ⟨some rs,low,high⟩ (wR rs low high i l) ((List.range i).map (pre 83))=0
 | [],_,_=>rfl
 |x::l,i,h=>by
  simp only[Yzm]at h;have e1:=zoe rs hl hl3 hr hf low high h0 h1 h2 i (by omega) x;have e2:((List.range i).map (pre 83)).any (eqB (qI rs low high i x).name)=false:=by
   rw[List.any_eq_false];intro s hs;obtain⟨j,hj,rfl⟩:=List.mem_map.1 hs;have hj:=List.mem_range.1 hj;have:=zfY (c:=83) (by simp) (show i<3 by omega) (show j<3 by omega) (by omega);show ¬eqB (pre 83 i) (pre 83 j)=true
   grind
  unfold wR qS;rw[Yzb (by omega),Yzb (by grind)];have:(List.range i).map (pre 83)++[(qI rs low high i x).name]=(List.range (i+1)).map (pre 83):=by rw[List.range_succ,Yyi];rfl
  rw[this];exact zem rs hl hl3 hr hf low high h0 h1 h2 l (i+1) (by omega)
theorem jE(rs:List Zj)(low high:Int):∀(l:List Pul) (i:Nat),(wR rs low high i l).length=l.length
 | [],_=>rfl
 |_::l,i=>by simp[wR,jE rs low high l]
theorem znf(b:Boa):right (zg3 b) (zdf b)=0:=by
 have:=zix b;have:=zfL b
 unfold right;omega
theorem zq6(rs:List Zj)(hl:0<rs.length)(hl3:rs.length≤60)(hr:∀r∈rs,y8 r=0)(hf:∀r∈rs,rkF r∈feetA)(i:Nat)(b:Boa)(hb:b.stops.els.length≤3):qM (some rs) (zgY rs i b)=0:=by
 have:=zix b;have:=zfL b
 unfold qM zgY;simp only[zK,jE,znf];rw[Yzb (by simp),Yzb (by omega)]
 grind[zem]
theorem zgX(rs:List Zj)(hl:0<rs.length)(hl3:rs.length≤60)(hr:∀r∈rs,y8 r=0)(hf:∀r∈rs,rkF r∈feetA):
  ∀(l:List Boa) (i:Nat),i+l.length≤3→(∀b∈l,b.stops.els.length≤3)→zaY (some rs) (uu rs i l) ((List.range i).map (pre 68))=0
 | [],_,_,_=>rfl
 |x::l,i,h,H=>by
  simp only[Yzm]at h;have e1:=zq6 rs hl hl3 hr hf i x (H x (Yzg ..));have e2:((List.range i).map (pre 68)).any (eqB (zgY rs i x).name)=false:=by
   rw[List.any_eq_false];intro s hs;obtain⟨j,hj,rfl⟩:=List.mem_map.1 hs;have hj:=List.mem_range.1 hj;have:=zfY (c:=68) (by simp) (show i<3 by omega) (show j<3 by omega) (by omega);show ¬eqB (pre 68 i) (pre 68 j)=true
   grind
  have e3:isName (zgY rs i x).name=true:=qt (c:=68) (by simp) (by omega);unfold uu zaY;rw[Yzb (by grind),Yzb (by grind),Yzb (by omega)];have:(List.range i).map (pre 68)++[(zgY rs i x).name]=(List.range (i+1)).map (pre 68):=by rw[List.range_succ,Yyi];rfl
  rw[this];exact zgX rs hl hl3 hr hf l (i+1) (by omega) fun b hb=>H b (Yze _ hb)
theorem vR(rs:List Zj):∀(l:List Boa) (i:Nat),(uu rs i l).length=l.length
 | [],_=>rfl
 |_::l,i=>by simp[uu,vR rs l]
theorem zc6(rs:List Zj):∀(l:List Boa) (i:Nat),((uu rs i l).map keyOf).any (fun k=>right k.1 k.2 != 0)=false
 | [],_=>rfl
 |b::l,i=>by
  simp only[uu,Yzv,List.any_cons,zc6 rs l]
  grind[keyOf,zgY,znf]
theorem zgZ(n:Nat)(hn:0<n):∀(l:List Lnk) (i:Nat) (p:List Cpl),i+l.length≤3→(∀c∈l,c.ok)→p.map Cpl.name=(List.range i).map (pre 67)→ziW n p (zaD n i l)=0
 | [],_,_,_,_,_=>rfl
 |x::l,i,p,h,H,hp=>by
  simp only[Yzm]at h;have e2:p.any (fun y=>eqB y.name (qX n i x).name)=false:=by
   rw[List.any_eq_false];intro y hy;have:y.name∈(List.range i).map (pre 67):=by grind
   obtain⟨j,hj,e⟩:=List.mem_map.1 this;have hj:=List.mem_range.1 hj;have:=zfY (c:=67) (by simp) (show j<3 by omega) (show i<3 by omega) (by omega);rw[←e];show ¬eqB (pre 67 j) (pre 67 i)=true
   grind
  have e3:isName (qX n i x).name=true:=qt (c:=67) (by simp) (by omega);have a1:x.src % n<n:=Yz6 _ hn;have a2:x.dst % n<n:=Yz6 _ hn;have hs:-25<x.shift.tmod 25∧x.shift.tmod 25<25:=by grind
  have q:∀a:Bool,True:=fun _=>trivial;have f0:¬(qX n i x).src<0:=by show ¬((x.src % n:Nat):Int)<0;omega
  have f1:¬(n:Int)≤(qX n i x).src:=by show ¬(n:Int)≤((x.src % n:Nat):Int);omega
  have f2:¬(qX n i x).dst<0:=by show ¬((x.dst % n:Nat):Int)<0;omega
  have f3:¬(n:Int)≤(qX n i x).dst:=by show ¬(n:Int)≤((x.dst % n:Nat):Int);omega
  have f4:-127≤(qX n i x).shift∧(qX n i x).shift≤127∧¬((qX n i x).src=(qX n i x).dst∧(qX n i x).shift=0):=by grind[qX]
  unfold zaD ziW;rw[Yzb (by grind),Yzb (by grind),Yzb f0,Yzb f1,Yzb f2,Yzb f3,Yzb (by omega),Yzb (by omega),Yzb f4.2.2];refine zgZ n hn l (i+1) _ (by omega) (fun c hc=>H c (Yze _ hc)) ?_;rw[Yyi,hp,List.range_succ,Yyi];rfl
theorem qn(n:Nat):∀(l:List Lnk) (i:Nat),(zaD n i l).length=l.length
 | [],_=>rfl
 |_::l,i=>by simp[zaD,qn n l]
theorem zlL(p:Pln)(hp:p.ok)(hf:zfP p=true):jS (zmp p)=0:=by obtain⟨f1,f2,f3,f4,f5,f6⟩:=zaR hf;have hlen:(vL 0 p.ranks.els).length=p.ranks.els.length:=zaC _ _;have hg:grow (vL 0 p.ranks.els)=some (vL 0 p.ranks.els):=zfO (by omega);have r1:=zj8 p.ranks.els 0 (by omega) hp.ranks;have d1:=zgX (vL 0 p.ranks.els) (by omega) (by omega) (zj7 _ _ hp.ranks) (zbl _ _) p.divs.els 0 (by omega) f6;have c1:=zgZ p.divs.els.length (by omega) p.cpls.els 0 [] (by omega) hp.cpls rfl;have k1:=zc6 (vL 0 p.ranks.els) p.divs.els 0;simp only[List.range_zero,List.map_nil]at r1 d1;unfold jS zmp;simp only[zK,hg,xw,hlen,vR];rw[Yzb (by trivial),Yzb (by omega),Yzb (by omega),Yzb (by omega),Yzb (by omega),Yzb (by omega)];unfold zkG;rw[Yzb (by grind[vR]),Yzb (by grind[qn]),Yzb (by grind),Yzj,vR];exact c1
theorem zc5(rs:List Zj)(low high:Int):∀(l:List Pul) (i:Nat),∀s∈wR rs low high i l,s.ok
 | [],_,_,h=>by cases h
 |x::l,i,s,h=>by
  rcases Yzw.1 h with rfl|h
  ·have hall:∀n sh m sh2 a kd,(xV low high n sh m sh2 a kd).length≤2∧∀g∈xV low high n sh m sh2 a kd,g.draws.els.length≤2:=by
    intro n sh m sh2 a kd;unfold xV
    grind
   obtain⟨q1,q2⟩:=hall ((x.rank % rs.length:Nat):Int) (shf (fB x.feet) (rkF (zgp rs (x.rank % rs.length)))) (((x.rank % rs.length+1) % rs.length:Nat):Int)
    (shf (fB x.feet) (rkF (zgp rs ((x.rank % rs.length+1) % rs.length)))) (low+((x.at_:Int).tmod (high-low+1))) (x.kind % 6)
   refine⟨?_,fun g hg=>?_⟩
   ·show (xV _ _ _ _ _ _ _ _).length≤_;omega
   ·have:=q2 g hg;show g.draws.els.length≤_;omega
  ·exact zc5 rs low high l _ s h
theorem ztK(p:Pln)(hf:zfP p=true):(zmp p).ok:=by
 obtain⟨f1,f2,f3,f4,f5,f6⟩:=zaR hf;have hd:∀(rs:List Zj) (l:List Boa) (i:Nat),(∀b∈l,b.stops.els.length≤3)→∀d∈uu rs i l,d.ok:=by
  intro rs l
  induction l with
  |nil=>intro i _ d h;cases h
  |cons b l ih=>
   intro i H d h;rcases Yzw.1 h with rfl|h
   ·have:=H b (Yzg ..);refine⟨?_,fun s hs=>?_⟩
    ·show (grow (wR rs (zg3 b) (zdf b) 0 b.stops.els)).els.length≤_
     grind[zK,jE]
    ·have hs:s∈(grow (wR rs (zg3 b) (zdf b) 0 b.stops.els)).els:=hs
     grind[zK,zc5]
   ·grind
 unfold zmp;refine⟨?_,fun r hr=>?_,?_,fun d h=>?_,?_⟩<;>grind[zK,zaC,zbM,vR,qn]
end Go.Proofs.Tryz.Kn
end
section
namespace Go.Proofs.Tryz.Kn
open Go Go.CE Go.PE
def vu(a b:Int):Int:=IntKind.wrap .u64 (BitVec.ofInt IntKind.u64.bits a &&& ~~~(BitVec.ofInt IntKind.u64.bits b)).toNat
def zvq(a b:Int):Int:=IntKind.wrap .u64 (BitVec.ofInt IntKind.u64.bits a &&& BitVec.ofInt IntKind.u64.bits b).toNat
theorem jD(a b:Int):zc .andNot (U64 a) (U64 b)=some (U64 (vu a b)):=by rfl
theorem zce(a b:Int):zc .and (U64 a) (U64 b)=some (U64 (zvq a b)):=by rfl
def zh7(a:Int)(n:Nat):Int:=Int.fdiv a (2^(min n 64))
theorem zvd{k:IntKind}(a:Int)(n:Nat):z7 false (U64 a) (.int k (n:Int))=some (U64 (zh7 a n)):=by rfl
theorem zpX{m:Nat}(h:m≤4611686018427387904):wB .u64 (m:Int)=(m:Int):=by grind[zsJ]
theorem zlv{k:IntKind}{n:Nat}(h:n≤62):z7 true (U64 1) (.int k (n:Int))=some (U64 ((2^n:Nat):Int)):=by
 have h0:ltI (n:Int) 0=false:=by rfl
 show oD (zfS .u64 1 (n:Int))=_;unfold zfS;rw[h0,Yzc];have hm:min (n:Int).toNat IntKind.u64.bits=n:=by rw[YzE];show min n 64=n;omega
 rw[hm];have hp:(2^n:Nat)≤2^62:=Nat.pow_le_pow_right (by decide) h;have e:Int.mul 1 (2^n)=((2^n:Nat):Int):=by simp
 rw[e,zpX (Yzn hp (by decide))];rfl
theorem zFi{n:Nat}(h:n≤62):zc .sub (U64 ((2^n:Nat):Int)) (U64 1)=some (U64 ((2^n-1:Nat):Int)):=by
 have hp:(2^n:Nat)≤2^62:=Nat.pow_le_pow_right (by decide) h
 grind[zqD,zpX]
theorem zEg(n:Nat):zh7 0 n=0:=by rfl
theorem zy5(a b:Int):zc .neq (U64 a) (U64 b)=some (Bo (!(a==b))):=zU _ _ _
abbrev enU(n:Int):List DV:=[U64 n]
structure Reg where
 stops:Sl Int
 cpls:Int
 off:Int
def yz(r:Reg):List DV:=[enL 1 enU r.stops,U64 r.cpls,U64 r.off]
def zgH(r:Reg):Prop:=r.stops.els.length≤9223372036854775807
def qG:List Zo→List Int→Bool
 |d::ds,s::ss=>!(zh7 s d.stops.els.length==0)||qG ds ss
 |_,_=>false
def yB(o:Org)(r:Reg):Int:=
 if jS o≠0 then jS o else if r.stops.els.length≠o.divs.els.length then 5 else if qG o.divs.els r.stops.els=true then 3
 else if zh7 r.cpls o.cpls.els.length≠0 then 3 else if zh7 r.off o.divs.els.length≠0 then 3 else 0
theorem l10(dv:Sl Zo)(hd:dv.els.length≤9223372036854775807)(st:Sl Int)(hl:st.els.length=dv.els.length):∀(ds:List Zo) (ss:List Int) (i:Nat),dv.els.drop i=ds→st.els.drop i=ss→
  zA (zpN (I6 (dv.els.length:Int)) (enL 5 enV dv) (enL 1 enU st)) [I6 (i:Int)] []=some (if qG ds ss=true then(.ret,[I6 3],[]) else(.exit 0,[],[])):=by
 intro ds
 induction ds with
 |nil=>
  intro ss i h _;refine zu ?_
  grind[zpN,zz,zj,zb,xY,ya,zn]
 |cons d ds ih=>
  intro ss i h h';have h1:=yH h;cases ss with
  |nil=>have:=ya h';omega
  |cons s ss=>
   have ea:zc .add (I6 (i:Int)) (I6 1)=some (I6 ((i+1:Nat):Int)):=yQ;have body:zpN (I6 (dv.els.length:Int)) (enL 5 enV dv) (enL 1 enU st) [I6 (i:Int)] []=some (if zh7 s d.stops.els.length=0 then(.normal,[I6 ((i+1:Nat):Int)],[]) else(.ret,[I6 3],[])):=by
    simp only[zpN,zz,zj,zb,jX h1,zn,if_true,yc h,yc h',enV,xE,vh,zD,zvd,zy5,ea]
    grind
   by_cases hc:zh7 s d.stops.els.length=0
   ·rw[Yzd hc]at body;rw[zH body,ih ss (i+1) (zP h) (zP h')];grind[qG]
   ·rw[Yzb hc]at body;grind[zB,qG]
theorem t10(k:Nat)(o:Org)(ho:o.ok)(r:Reg):D (k+10) 10 [SA (enO o),SA (yz r)]=some (S1 (I6 (yB o r))):=by
 have c:=t27 k o ho;unfold enO at c ⊢;unfold yz;rw[D10];unfold P10 yB;simp only[c,zX,zU,zb,zn,zD];by_cases h1:jS o=0
 ·by_cases h2:r.stops.els.length=o.divs.els.length
  ·have e:(!((r.stops.els.length:Int)==(o.divs.els.length:Int)))=false:=by simp[h2]
   have l:=l10 o.divs ho.dl r.stops h2 o.divs.els r.stops.els 0 rfl rfl;simp only[h1,h2,Yzu,Yyf,Yzh,if_false,ne_eq,not_true_eq_false];rw[show (I6 0:DV)=I6 ((0:Nat):Int) from rfl,l];cases qG o.divs.els r.stops.els with
   |true=>rfl
   |false=>
    simp only[Yzh,if_false,yq,Yzp,Yza,zvd,zb,zy5,zn]
    grind
  ·grind
 grind
theorem zcS{o:Org}(h:jS o=0):o.divs.els.length≤8∧0<o.divs.els.length:=by grind[jS]
theorem zuS{β:Type}(o:Org)(K:List DV→Option β):bA 4 (some (SA (enO o))) K=K (enO o):=rfl
theorem zEx(o:Org):[atD (enO o) 0,atD (enO o) 1,atD (enO o) 2,atD (enO o) 3]=enO o:=rfl
theorem zkR(r:Reg):[atD (yz r) 0,atD (yz r) 1,atD (yz r) 2]=yz r:=rfl
def ke(n:Nat):Int:=((2^n-1:Nat):Int)
def zEj(d:Zo):Int:=ke d.stops.els.length
def enB(b:Nat→Nat):List DV:=[U8 (b 0:Int),U8 (b 1:Int),U8 (b 2:Int),U8 (b 3:Int),U8 (b 4:Int)]
def jg(b:Nat→Nat):Nat→List Zo→List Int
 |_,[]=>[]
 |i,d::r=>zvq (b (i % 3):Int) (zEj d)::jg b (i+1) r
def ja(o:Org)(b:Nat→Nat):Reg:=⟨grow (jg b 0 o.divs.els),zvq (b 3:Int) (ke o.cpls.els.length),zvq (b 4:Int) (ke o.divs.els.length)⟩
theorem l14(b:Nat→Nat)(hb:∀i,b i<256)(dv:Sl Zo)(hl:dv.els.length≤1000)(hs:∀d∈dv.els,d.stops.els.length≤60)(c0 c1:DV):∀(r:List Zo) (i:Nat) (acc:List Int),dv.els.drop i=r→acc.length=i→
  zA (zDw (enL 5 enV dv) (U8 (b 0:Int)) (U8 (b 1:Int)) (U8 (b 2:Int)) (U8 (b 3:Int)) (U8 (b 4:Int))) [I6 (i:Int),c0,c1] [ocL enU (grow acc)]=some (.exit 0,[c0,c1],[ocL enU (grow (acc++jg b i r))]):=by
 intro r
 induction r with
 |nil=>grind[zu,zDw,zz,yF,yM,zD,zj,zb,xY,ya,zn,jg]
 |cons d r ih=>
  intro i acc h ha;have h1:=yH h;have hd:=hs d (Lz3 (xa h));have ea:zc .add (I6 (i:Int)) (I6 1)=some (I6 ((i+1:Nat):Int)):=yQ;have e1:zc .rem (I6 (i:Int)) (I6 3)=some (I6 ((i % 3:Nat):Int)):=zlq (b:=3) (by decide);have h3:i % 3<3:=Yz6 _ (by decide);have e2:jV 5 (I6 ((i % 3:Nat):Int))=some (i % 3):=zjT (by omega);have e3:atD [U8 (b 0:Int),U8 (b 1:Int),U8 (b 2:Int),U8 (b 3:Int),U8 (b 4:Int)] (i % 3)=U8 (b (i % 3):Int):=by
   have:i % 3=0∨i % 3=1∨i % 3=2:=by omega
   rcases this with h|h|h<;>rw[h]<;>rfl
  have hbb:=hb (i % 3);have e4:xx .u64 (U8 (b (i % 3):Int))=some (U64 (b (i % 3):Int)):=zxh (by omega);have e5:xx .u64 (I6 (d.stops.els.length:Int))=some (U64 (d.stops.els.length:Int)):=zxh (by omega);have sh:z7 true (U64 1) (U64 (d.stops.els.length:Int))=some (U64 ((2^d.stops.els.length:Nat):Int)):=zlv (by omega);have sb:zc .sub (U64 ((2^d.stops.els.length:Nat):Int)) (U64 1)=some (U64 (zEj d)):=zFi (by omega);have ef:fits 8 ((grow acc).els.length+1)=true:=wH (by decide) (by grind[zK]);have body:zDw (enL 5 enV dv) (U8 (b 0:Int)) (U8 (b 1:Int)) (U8 (b 2:Int)) (U8 (b 3:Int)) (U8 (b 4:Int)) [I6 (i:Int),c0,c1] [ocL enU (grow acc)]=some (.normal,[I6 ((i+1:Nat):Int),c0,c1],[ocL enU (grow (acc++[zvq (b (i % 3):Int) (zEj d)]))]):=by rw[wi,←vJ (f:=enU)];simp only[zDw,zz,yF,yM,zD,zj,zb,jX h1,zn,if_true,e1,e2,e3,e4,yc h,enV,xE,vh,e5,sh,sb,zce,xZ,Yzm,YzJ,ef,kR,ea,x9]
  rw[zH body,ih (i+1) _ (zP h) (by simp[ha])];simp[jg]
theorem t14(k:Nat)(o:Org)(b:Nat→Nat)(hb:∀i,b i<256)(hd:o.divs.els.length≤60)(hs:∀d∈o.divs.els,d.stops.els.length≤60)(hc:o.cpls.els.length≤60):D (k+1) 14 [SA (enO o),SA (enB b)]=some (SA (yz (ja o b))):=by
 have h3:=hb 3;have h4:=hb 4
 have e3:xx .u64 (U8 (b 3:Int))=some (U64 (b 3:Int)):=zxh (by omega);have e4:xx .u64 (U8 (b 4:Int))=some (U64 (b 4:Int)):=zxh (by omega);have f3:xx .u64 (I6 (o.cpls.els.length:Int))=some (U64 (o.cpls.els.length:Int)):=zxh (by omega);have f4:xx .u64 (I6 (o.divs.els.length:Int))=some (U64 (o.divs.els.length:Int)):=zxh (by omega);have s3:z7 true (U64 1) (U64 (o.cpls.els.length:Int))=some (U64 ((2^o.cpls.els.length:Nat):Int)):=zlv (by omega);have s4:z7 true (U64 1) (U64 (o.divs.els.length:Int))=some (U64 ((2^o.divs.els.length:Nat):Int)):=zlv (by omega);have g3:zc .sub (U64 ((2^o.cpls.els.length:Nat):Int)) (U64 1)=some (U64 (ke o.cpls.els.length)):=zFi (by omega);have g4:zc .sub (U64 ((2^o.divs.els.length:Nat):Int)) (U64 1)=some (U64 (ke o.divs.els.length)):=zFi (by omega);have l:=l14 b hb o.divs (by omega) hs (U64 (zvq (b 3:Int) (ke o.cpls.els.length))) (U64 (zvq (b 4:Int) (ke o.divs.els.length))) o.divs.els 0 [] rfl rfl;rw[show ocL enU (grow ([]:List Int))=none from rfl,Yz0]at l;unfold enO enB;rw[D14];unfold P14;simp only[zb,xE,vh,e3,e4,zD,f3,f4,s3,s4,g3,g4,zce];rw[show (I6 0:DV)=I6 ((0:Nat):Int) from rfl,l];simp only[yq,Yzp,Yza,yM,zz,yF,kK];rfl
theorem zbN(rs:List Zj):∀(l:List Boa) (i:Nat),(∀b∈l,b.stops.els.length≤3)→∀d∈uu rs i l,d.stops.els.length≤3
 | [],_,_,_,h=>by cases h
 |b::l,i,H,d,h=>by
  rcases Yzw.1 h with rfl|h
  ·have:=H b (Yzg ..);show (grow (wR rs (zg3 b) (zdf b) 0 b.stops.els)).els.length≤3
   grind[zK,jE]
  ·exact zbN rs l (i+1) (fun x hx=>H x (Yze _ hx)) d h
theorem zlK(p:Pln)(hf:zfP p=true):(zmp p).divs.els.length≤3∧(∀d∈(zmp p).divs.els,d.stops.els.length≤3)∧(zmp p).cpls.els.length≤3:=by grind[zaR,zmp,zK,vR,zbN,qn]
theorem zje{β:Type}(r:Reg)(K:List DV→Option β):bA 3 (some (SA (yz r))) K=K (yz r):=rfl
theorem zpu(l:List (List DV)):zdU (some []) l=some l:=by cases l<;>rfl
theorem zzv{α:Type}{f:α→List DV}{st off:Nat}{l:List α}{i:Nat}{x x':α}{ds:List DV}(hx:l[i]? = some x)(hle:off+ds.length≤st)(h:(f x).take off++ds++(f x).drop (off+ds.length)=f x'):
  zgo st (some (l.map f)) i off ds=some (some ((l.set i x').map f)):=by
 simp_all[zgo,Yzf]
end Go.Proofs.Tryz.Kn
end
section
namespace Go.Proofs.Tryz.Kn
open Go Go.CE Go.PE
def bit(a:Int)(i:Nat):Bool:=zvq (zh7 a i) 1==1
theorem zzd(a b:Int):zc .eql (U64 a) (U64 b)=some (Bo (a==b)):=zO _ _ _
theorem zEF:((List.range 256).all fun x=>[0,1,2,3].all fun n=>zh7 (zvq (x:Int) (ke n)) n==0)=true:=by kernel_rfl
theorem zDl{x n:Nat}(hx:x<256)(hn:n≤3):zh7 (zvq (x:Int) (ke n)) n=0:=by
 have h:=YzL.1 (YzL.1 zEF x (List.mem_range.2 hx)) n (by grind)
 grind
theorem jd(b:Nat→Nat):∀(l:List Zo) (i:Nat),(jg b i l).length=l.length
 | [],_=>rfl
 |d::l,i=>by simp[jg,jd b l (i+1)]
theorem zC5(b:Nat→Nat)(hb:∀i,b i<256):∀(l:List Zo) (i:Nat),(∀d∈l,d.stops.els.length≤3)→qG l (jg b i l)=false
 | [],_,_=>rfl
 |d::l,i,h=>by rw[jg,qG,show zEj d=ke d.stops.els.length from rfl,zDl (hb _) (h d (Yzg ..)),zC5 b hb l (i+1) fun x hx=>h x (Yze _ hx)];rfl
theorem zDm{o:Org}(h:jS o=0)(b:Nat→Nat)(hb:∀i,b i<256)(hd:o.divs.els.length≤3)(hs:∀d∈o.divs.els,d.stops.els.length≤3)(hc:o.cpls.els.length≤3):yB o (ja o b)=0:=by simp_all[yB,ja,zK,jd,zC5,zDl]
end Go.Proofs.Tryz.Kn
end
section
namespace Go.Proofs.Tryz.Kn
open Go Go.CE Go.PE
structure Zq where
 rank:Int
 num:Int
deriving DecidableEq
def ltP(a b:Zq):Prop:=a.rank<b.rank∨(a.rank=b.rank∧a.num<b.num)
def leP(a b:Zq):Prop:=a.rank<b.rank∨(a.rank=b.rank∧a.num≤b.num)
instance (a b:Zq):Decidable (ltP a b):=by unfold ltP;infer_instance
theorem Zq.eq{a b:Zq}(h1:a.rank=b.rank)(h2:a.num=b.num):a=b:=by cases a<;>simp_all
theorem zD0{a b c:Zq}(h:leP a b)(g:leP b c):leP a c:=by grind[leP]
theorem zDX{a b c:Zq}(h:ltP a b)(g:ltP b c):ltP a c:=by grind[ltP]
theorem lt_irrefl{a:Zq}:¬ltP a a:=by grind[ltP]
theorem zFj{a b:Zq}(h:leP a b)(g:a≠b):ltP a b:=by grind[leP,ltP,Zq.eq]
theorem zFk{a b c:Zq}(h:leP a b)(g:ltP b c):ltP a c:=by grind[leP,ltP]
theorem zDj:∀(l m:List Zq),l.Pairwise ltP→m.Pairwise ltP→(∀y,y∈l↔y∈m)→l=m
 | [],[],_,_,_=>rfl
 | [],y::m,_,_,h=>by grind[Yzg]
 |x::l,[],_,_,h=>by grind[Yzg]
 |x::l,y::m,h1,h2,h=>by
  have a1:=List.pairwise_cons.1 h1;have a2:=List.pairwise_cons.1 h2;have hxy:x=y:=by
   rcases Yzw.1 ((h x).1 (Yzg ..)) with e|hx
   ·exact e
   ·grind[Yzg,zDX,lt_irrefl]
  subst hxy;rw[zDj l m a1.2 a2.2 fun z=>?_]
  grind[lt_irrefl]
def Kept(l acc:List Zq)(m:Nat):Prop:=acc.Pairwise ltP∧∀y,y∈acc↔y∈l.take m
theorem Kept.same{l acc:List Zq}{m:Nat}(H:Kept l acc (m+1)){x:Zq}(h0:l[m]? = some x)(h1:l[m+1]? = some x):Kept l acc (m+2):=by
 refine⟨H.1,fun y=>(H.2 y).trans ?_⟩;rw[show l.take (m+2)=l.take (m+1)++[x] by grind[List.take_add_one],List.mem_append,Yz8]
 constructor
 ·exact .inl
 ·rintro (h|rfl)
  ·exact h
  ·exact Lz3 (i:=m) (by grind)
theorem Kept.next{l acc:List Zq}{m:Nat}(hs:l.Pairwise leP)(H:Kept l acc (m+1)){x z:Zq}(h0:l[m]? = some z)(h1:l[m+1]? = some x)(hne:x≠z):Kept l (acc++[x]) (m+2):=by
 have hzx:ltP z x:=by grind[zFj,List.pairwise_iff_getElem]
 refine⟨List.pairwise_append.2 ⟨H.1,List.pairwise_singleton ..,fun a ha b hb=>?_⟩,fun y=>?_⟩
 ·obtain rfl:=Yz8.1 hb;have ha':=(H.2 a).1 ha
  grind[List.mem_iff_getElem?,List.pairwise_iff_getElem,zFk]
 ·rw[show l.take (m+2)=l.take (m+1)++[x] by grind[List.take_add_one],List.mem_append,List.mem_append,H.2]
def zBt(p:Zq):List DV:=[I6 p.rank,I6 p.num]
abbrev ocP(l:List Zq):OC:=ocL zBt (some l)
theorem zDJ(l:List Zq):xR (ocP l)=l.length:=by simp
theorem zDA{l:List Zq}{i:Nat}(h:i<l.length):xe (ocP l) (I6 (i:Int))=some i:=jC (by grind)
theorem zC7{l:List Zq}{i:Nat}{x:Zq}(h:l[i]? = some x):jW (ocP l) i=some (zBt x):=by
 show (l.map zBt)[i]? = _
 grind
theorem zET{l:List Zq}{i:Nat}(h:i<l.length)(x:Zq):zgo 2 (ocP l) i 0 [I6 x.rank,I6 x.num]=some (ocP (l.set i x)):=by
 have:(l.map zBt)[i]? = some (zBt l[i]):=by grind
 show (match (l.map zBt)[i]? with
  |some y=>bif Nat.ble (0 + [I6 x.rank,I6 x.num].length) 2 then some (some ((l.map zBt).set i (y.take 0++[I6 x.rank,I6 x.num]++y.drop (0 + [I6 x.rank,I6 x.num].length)))) else none
  |none=>none)=_
 rw[this];show some (some ((l.map zBt).set i (zBt x)))=some (some ((l.set i x).map zBt));rw[List.map_set]
theorem jw(a b:Zq):zmq [1,1] [I6 a.rank,I6 a.num] [I6 b.rank,I6 b.num]=some (decide (a=b)):=by
 cases a with|mk r s=>
 cases b with|mk r' s'=>
 simp only[zmq,eqD,xu,Yza,jU];by_cases h1:r=r'
 ·by_cases h2:s=s'
  ·grind
  ·have e2:(s==s')=false:=by grind
   simp[h1,h2,e2]
 ·have e1:(r==r')=false:=by grind
  simp[h1,e1]
theorem take_set{l:List Zq}{i:Nat}{x:Zq}(h:i<l.length):(l.set i x).take (i+1)=l.take i++[x]:=by grind[List.take_add_one,List.take_set,List.set_eq_of_length_le]
theorem zFm(l:List Zq)(n k:Nat)(hn:l.length=n)(hs:l.Pairwise leP)(hn2:n≤1000)(hk:1≤k)(hkn:k<n):∀(m k2:Nat) (w acc:List Zq),k2+m=n-k→1≤k2→acc.length≤k+k2-1→w.length=n→w.take acc.length=acc→
  (∀i,k+k2-1≤i→w[i]? = l[i]?)→Kept l acc (k+k2)→∃w' acc',zA (zDq (k,n-k)) [I6 (k2:Int),I6 (acc.length:Int)] [ocP w]=some (.exit 2,[I6 (acc'.length:Int)],[ocP w'])∧w'.length=n∧w'.take acc'.length=acc'∧acc'.length<n∧Kept l acc' n
 |0,k2,w,acc,h1,h2,h3,h4,h5,_,h7=>by grind[zu,zDq,zz,yF,yM,zj,zb,zn]
 |m+1,k2,w,acc,h1,h2,h3,h4,h5,h6,h7=>by
  obtain⟨x,hx⟩:∃x,l[k+k2]? = some x:=⟨_,Lz5 (by omega)⟩;obtain⟨z,hz⟩:∃z,l[k+k2-1]? = some z:=⟨_,Lz5 (by omega)⟩;have e1:k+(k2-1)=k+k2-1:=by omega
  have hwx:w[k+k2]? = some x:=by grind
  have hwz:w[k+(k2-1)]? = some z:=by grind
  have i1:jV (n-k) (I6 (k2:Int))=some k2:=zjT (by omega);have es:zc .sub (I6 (k2:Int)) (I6 1)=some (I6 ((k2-1:Nat):Int)):=by grind[zmK]
  have i2:jV (n-k) (I6 ((k2-1:Nat):Int))=some (k2-1):=zjT (by omega);have ea:zc .add (I6 (k2:Int)) (I6 1)=some (I6 ((k2+1:Nat):Int)):=yQ;have eb:zc .add (I6 (acc.length:Int)) (I6 1)=some (I6 ((acc.length+1:Nat):Int)):=yQ;have i3:xe (ocP w) (I6 (acc.length:Int))=some acc.length:=zDA (by omega);have st:=zET (l:=w) (i:=acc.length) (by omega) x;have eq:=jw x z;have body:zDq (k,n-k) [I6 (k2:Int),I6 (acc.length:Int)] [ocP w]=some (if x=z then(.normal,[I6 ((k2+1:Nat):Int),I6 (acc.length:Int)],[ocP w]) else(.normal,[I6 ((k2+1:Nat):Int),I6 ((acc.length+1:Nat):Int)],[ocP (w.set acc.length x)])):=by
   simp only[zDq,zz,yF,yM,xy,zj,zb,jX (show k2<n-k by omega),zn,if_true,i1,zC7 hwx,es,i2,zC7 hwz,zBt,xE,vh,eq,i3,st,ea,eb]
   grind
  have hm:l[k+k2-1+1]? = some x:=by grind
  rw[show k+k2=(k+k2-1)+1 by omega]at h7;by_cases hc:x=z
  ·rw[Yzd hc]at body;subst hc;have:=h7.same hz hm;rw[zH body];exact zFm l n k hn hs hn2 hk hkn m (k2+1) w acc (by omega) (by omega) (by omega) h4 h5 (fun i hi=>h6 i (by omega)) (by grind)
  ·rw[Yzb hc]at body;have:=h7.next hs hz hm hc
   have hl:(acc++[x]).length=acc.length+1:=by simp
   rw[zH body,←hl];refine zFm l n k hn hs hn2 hk hkn m (k2+1) (w.set acc.length x) (acc++[x]) (by omega) (by omega) (by omega) (by grind) ?_ (fun i hi=>?_) (by grind)
   ·grind[take_set]
   ·grind
theorem zEp(y d:Nat):qP none d y=some d:=rfl
theorem zFz(l:List Zq)(n:Nat)(hn:l.length=n)(hs:l.Pairwise leP)(hn2:n≤1000):∀(m k:Nat),k+m=n→1≤k→Kept l (l.take k) k→
  ∃acc,(zA jn [I6 (k:Int)] [ocP l]=some (.exit 0,[],[ocP acc])∨zA jn [I6 (k:Int)] [ocP l]=some (.ret,[.lst 2 (acc.map zBt)],[]))∧Kept l acc n
 |0,k,h1,h2,h3=>by refine⟨l,.inl (zu ?_),?_⟩<;>grind[jn,zz,yM,zDJ,zj,zb,zn]
 |m+1,k,h1,h2,h3=>by
  obtain⟨x,hx⟩:∃x,l[k]? = some x:=⟨_,Lz5 (by omega)⟩;obtain⟨z,hz⟩:∃z,l[k-1]? = some z:=⟨_,Lz5 (by omega)⟩;have i1:xe (ocP l) (I6 (k:Int))=some k:=zDA (by omega);have es:zc .sub (I6 (k:Int)) (I6 1)=some (I6 ((k-1:Nat):Int)):=by grind[zmK]
  have i2:xe (ocP l) (I6 ((k-1:Nat):Int))=some (k-1):=zDA (by omega);have ea:zc .add (I6 (k:Int)) (I6 1)=some (I6 ((k+1:Nat):Int)):=yQ;have eq:=jw x z;have hb:∀i y:Nat,i≤y→qP (some (I6 (i:Int))) 0 y=some i:=fun i y h=>by
   show (bif Nat.ble i y then some i else none)=_
   grind[Yzf]
  have hb2:∀i y:Nat,i≤y→qP (some (I6 (i:Int))) y y=some i:=fun i y h=>by
   show (bif Nat.ble i y then some i else none)=_
   grind[Yzf]
  have vw:∀i:Nat,i<n→vwB (some (I6 (i:Int))) none n=some (i,n-i):=fun i h=>by grind[vwB,zEp,Lz1]
  have vt:∀i:Nat,i≤n→vwB none (some (I6 (i:Int))) n=some (0,i-0):=fun i h=>by unfold vwB;rw[hb2 i n h];rfl
  by_cases hc:x=z
  ·subst hc;have h7:Kept l (l.take k) (k+1):=by
    have h3':=h3;rw[show k=(k-1)+1 by omega]at h3';have:=h3'.same hz (by grind)
    grind
   have hlen:(l.take k).length=k:=by simp;omega
   obtain⟨w',acc',c1,c2,c3,c4,c5⟩:=zFm l n k hn hs hn2 h2 (by omega) (n-k-1) 1 l (l.take k) (by omega) (by omega) (by omega) hn (by rw[hlen]) (fun _ _=>rfl) h7;rw[hlen]at c1;refine⟨acc',.inr (zB ?_),c5⟩;have hcl:zms (ocP w') acc'.length (n-acc'.length) [I6 0,I6 0]=some ((w'.map zBt).take acc'.length++List.replicate (n-acc'.length) [I6 0,I6 0]++(w'.map zBt).drop (acc'.length+(n-acc'.length))):=rfl;have hcn:((w'.map zBt).take acc'.length++List.replicate (n-acc'.length) [I6 0,I6 0]++(w'.map zBt).drop (acc'.length+(n-acc'.length))).length=n:=by simp;omega
   simp only[jn,zz,yM,zDJ,xy,zj,zb,zn,if_true,i1,zC7 hx,es,i2,zC7 hz,zBt,xE,vh,eq,decide_true,hn,vw k (by omega)];rw[show (I6 1:DV)=I6 ((1:Nat):Int) from rfl,c1];simp only[yq,zz,yM,zDJ,c2,vw acc'.length c4,zb,hcl,zwD,hcn,vt acc'.length (by omega)];rw[jX (show k<n by omega),Yzd rfl];show some ((Zg.ret,[zqz 2 0 (acc'.length-0) (.lst 2 _)],[]):PX)=_;rw[Nat.sub_zero];show some ((Zg.ret,[DV.lst 2 ((List.drop 0 _).take acc'.length)],[]):PX)=_
   grind[List.map_take]
  ·have hne:decide (x=z)=false:=decide_eq_false hc;have body:jn [I6 (k:Int)] [ocP l]=some (.normal,[I6 ((k+1:Nat):Int)],[ocP l]):=by
    simp only[jn,zz,yM,zDJ,xy,zj,zb,jX (show k<l.length by omega),zn,if_true,i1,zC7 hx,es,i2,zC7 hz,zBt,xE,vh,eq,hne,Yzh,if_false,ea]
   rw[zH body];refine zFz l n hn hs hn2 m (k+1) (by omega) (by omega) ?_;have h3':=h3;rw[show k=(k-1)+1 by omega]at h3';have:=h3'.next hs hz (by grind) hc
   grind[List.take_add_one]
def zsI:Seg:=⟨0,0,none⟩
def zxg(key:Int)(g:Seg):Bool:=decide (g.lo≤key)&&decide (key≤g.hi)
def zzw(s:Zr)(key:Int):Seg:=(s.segs.els.find? (zxg key)).getD zsI
theorem zDa{α:Type}(p:α→Bool):∀(l:List α) (i:Nat),(xO p l i=none∧l.find? p=none)∨∃j g,xO p l i=some (i+j)∧l[j]? = some g∧l.find? p=some g
 | [],_=>.inl ⟨rfl,rfl⟩
 |x::l,i=>by
  unfold xO;cases h:p x with
  |true=>simp_all
  |false=>
   rcases zDa p l (i+1) with⟨a,b⟩|⟨j,g,a,b,c⟩
   ·grind
   ·exact .inr ⟨j+1,g,by grind,by trivial,by simp[h,c]⟩
theorem t138(k:Nat)(g:Seg)(key:Int):D (k+1) 138 [SA (enS g),S1 (.fp [I6 key] 0)]=some (S1 (Bo (zxg key g))):=by unfold enS;rw[zFV];unfold zFv zxg;by_cases h1:g.lo≤key<;>by_cases h2:key≤g.hi<;>simp[h1,h2]
theorem zFS(k:Nat)(l:Sl Seg)(key:Int)(hl:l.els.length≤9223372036854775807):∀(r:List Seg) (i:Nat),l.els.drop i=r→
  zA (zDx (D (k+1)) (I6 (l.els.length:Int)) (enL 3 enS l) (.fn 138 [[I6 key]])) [I6 (i:Int)] []=some (found (xO (zxg key) r i)):=by
 intro r
 induction r with
 |nil=>
  intro i h;refine zu ?_
  grind[zDx,zz,zj,zb,xY,ya,zn]
 |cons g r ih=>
  intro i h;have h1:=yH h;have ea:zc .add (I6 (i:Int)) (I6 1)=some (I6 ((i+1:Nat):Int)):=yQ;have c:zhR (D (k+1)) (.fn 138 [[I6 key]]) [SA [atD (enS g) 0,atD (enS g) 1,atD (enS g) 2]]=some (S1 (Bo (zxg key g))):=t138 k g key;have body:zDx (D (k+1)) (I6 (l.els.length:Int)) (enL 3 enS l) (.fn 138 [[I6 key]]) [I6 (i:Int)] []=some (if zxg key g then(.ret,[I6 (i:Int)],[]) else(.normal,[I6 ((i+1:Nat):Int)],[])):=by
   simp only[zDx,zz,zj,zb,jX h1,zn,if_true,yc h,c,zX,ea]
   grind
  cases hc:zxg key g<;>grind[zB,xO,found,zH,zP]
theorem t137(k:Nat)(l:Sl Seg)(key:Int)(hl:l.els.length≤9223372036854775807):D (k+2) 137 [S1 (enL 3 enS l),S1 (.fn 138 [[I6 key]])]=some (S1 (I6 (match xO (zxg key) l.els 0 with|some i=>(i:Int)|none=>-1))):=by rw[zFW];unfold zFw;have:=zFS k l key hl l.els 0 rfl;simp only[zD,zb];rw[show (I6 0:DV)=I6 ((0:Nat):Int) from rfl,this];cases xO (zxg key) l.els 0<;>rfl
theorem t117(k:Nat)(s:Zr)(hs:s.ok)(key:Int):D (k+3) 117 [SA (vB s),S1 (I6 key)]=some (SA (enS (zzw s key))):=by
 have c:=t137 k s.segs key hs.len;unfold vB;rw[zFY];unfold zFy zzw;rw[c];rcases zDa (zxg key) s.segs.els 0 with⟨a,b⟩|⟨j,g,a,b,d⟩
 ·rw[a,b];rfl
 ·rw[a,d];have h0:¬(((0+j:Nat):Int)<0):=by omega
  have ix:yW 3 (enL 3 enS s.segs) (I6 ((0+j:Nat):Int))=some (enS g):=by simp_all[jB]
  simp only[zps,zj,h0,decide_false,zb,zn,Yzh,if_false,ix];rfl
def numOf(r:Zj)(d:Zn)(key:Int):Int:=wB .i64 (wB .i64 (key+d.shift)-r.first)
def zv4(rs:List Zj)(key:Int)(d:Zn):Option Zq:=
 if d.rank<0 then none else
 match rs[d.rank.toNat]? with
 |none=>none
 |some r=>if 0≤numOf r d key∧numOf r d key<(r.wind.els.length:Int) then some ⟨d.rank,numOf r d key⟩ else none
theorem t118(k:Nat)(rs:Sl Zj)(key:Int)(d:Zn):∃q b,D (k+1) 118 [S1 (enL 6 enR rs),SA [I6 d.rank,I6 d.shift],S1 (I6 key)]=some (.tup [.agg (zBt q),.one (Bo b)])∧zv4 rs.els key d=if b then some q else none:=by
 rw[zFX];unfold zFx zv4;simp only[zj,zb,zn,zD,zaw,YzD];by_cases h1:d.rank<0
 ·rw[Yzd h1,Yzd h1];exact⟨⟨0,0⟩,false,rfl,rfl⟩
 rw[Yzb h1,Yzb h1];obtain⟨m,hm⟩:∃m:Nat,d.rank=(m:Int):=⟨d.rank.toNat,by omega⟩;rw[hm];by_cases h2:(rs.els.length:Int)≤(m:Int)
 ·rw[Yzd h2,YzE,List.getElem?_eq_none (by omega)];exact⟨⟨0,0⟩,false,rfl,rfl⟩
 rw[Yzb h2,YzE];obtain⟨r,hr⟩:∃r,rs.els[m]? = some r:=⟨_,Lz5 (by omega)⟩;have ix:yW 6 (enL 6 enR rs) (I6 (m:Int))=some (enR r):=by grind[jB]
 rw[hr];simp only[zqF,ix,zb,enR,vh,xE,zqD,zaw,zn,zD,zj];show ∃q b,(if decide (0≤numOf r d key)=true then some (DA.tup [.agg [I6 (m:Int),I6 (numOf r d key)],.one (Bo (decide (numOf r d key<(r.wind.els.length:Int))))]) else some (DA.tup [.agg [I6 (m:Int),I6 (numOf r d key)],.one (Bo false)]))=_∧_;by_cases h3:0≤numOf r d key
 ·by_cases h4:numOf r d key<(r.wind.els.length:Int)
  ·simp_all[zBt]
  ·exact⟨⟨m,numOf r d key⟩,false,by grind[zBt],by simp[h4]⟩
 ·exact⟨⟨m,numOf r d key⟩,false,by grind[zBt],by simp[h3]⟩
theorem zFR(k:Nat)(rs:Sl Zj)(key:Int)(ds:Sl Zn)(g0:List DV)(hg:atD g0 2=enL 2 enD ds):∀(r:List Zn) (i:Nat) (v:Sl Zq),ds.els.drop i=r→v.els.length+r.length≤1000→i+r.length≤1000→
  ∃v':Sl Zq,zA (zD6 (D (k+1)) (I6 (ds.els.length:Int)) g0 (enL 6 enR rs) (I6 key)) [I6 (i:Int)] [ocL zBt v]=some (.exit 0,[],[ocL zBt v'])∧v'.els=v.els++r.filterMap (zv4 rs.els key):=by
 intro r
 induction r with
 |nil=>grind[zu,zD6,zz,yM,zj,zb,zn]
 |cons d r ih=>
  intro i v h hv hi;have h1:=yH h;simp only[Yzm]at hv hi;have ea:zc .add (I6 (i:Int)) (I6 1)=some (I6 ((i+1:Nat):Int)):=yQ;obtain⟨q,b,c,hp⟩:=t118 k rs key d;have ix:yW 2 (enL 2 enD ds) (I6 (i:Int))=some (enD d):=yc h _;have ef:fits 16 (v.els.length+1)=true:=wH (by decide) (by omega);have body:zD6 (D (k+1)) (I6 (ds.els.length:Int)) g0 (enL 6 enR rs) (I6 key) [I6 (i:Int)] [ocL zBt v]=some (.normal,[I6 ((i+1:Nat):Int)],[ocL zBt (if b then some (v.els++[q]) else v)]):=by
   simp only[zD6,zz,yM,zj,zb,jX h1,zn,if_true,hg,ix,enD,xE,vh,c];rw[zFu (by rfl)];simp only[zkB,zBu,zf3,zAA,zBt,xE,vh,xZ,ef,kR,ea,zb,x9,zn];cases b with
   |true=>simp only[if_true];rw[←vJ];rfl
   |false=>rfl
  rw[zH body];cases b with
  |true=>
   obtain⟨v',e1,e2⟩:=ih (i+1) (some (v.els++[q])) (zP h) (by simp;omega) (by omega)
   grind
  |false=>
   obtain⟨v',e1,e2⟩:=ih (i+1) v (zP h) (by omega) (by omega)
   grind
def ztm(rs:List Zj)(key:Int)(ds:List Zn):List Zq:=ds.filterMap (zv4 rs key)
theorem zEl{l acc:List Zq}{n:Nat}(hn:l.length=n)(H:Kept l acc n):acc.Pairwise ltP∧∀y,y∈acc↔y∈l:=⟨H.1,fun y=>by rw[H.2,List.take_of_length_le (by omega)]⟩
theorem kq:∀{l m:List Zq},l.Pairwise ltP→(∀z∈l,z∈m)→l.length≤m.length
 | [],m,_,_=>Yzo _
 |x::l,m,h,H=>by
  have h':=List.pairwise_cons.1 h;obtain⟨a,b,rfl⟩:=List.append_of_mem (H x (Yzg ..));have:=kq (l:=l) (m:=a++b) h'.2 fun z hz=>by
   have hm:=H z (Yze _ hz);rcases List.mem_append.1 hm with hm|hm
   ·grind
   ·rcases Yzw.1 hm with rfl|hm
    ·grind[lt_irrefl]
    ·grind
  grind
def zEd(p:Zq):List Int:=[p.rank,p.num]
def leB(a b:Zq):Bool:=leZ (zEd a) (zEd b)
theorem kz{a b:Zq}:leB a b=true↔leP a b:=by grind[leB,leZ,zEd,leP,ltZ]
def zvE(p:Zq):Prop:=-2305843009213693952≤p.rank∧p.rank≤2305843009213693952∧-2305843009213693952≤p.num∧p.num≤2305843009213693952
theorem zDU:∀l:List Zq,(∀p∈l,zvE p)→zne 2 (l.map zBt)=some (l.map zEd)
 | [],_=>rfl
 |p::l,h=>by
  have e:zsD (zBt p)=some (zEd p):=rfl;have z:inZ (zEd p)=true:=by
   obtain⟨h1,h2,h3,h4⟩:=h p (Yzg ..)
   grind[inZ,zEd]
  simp only[Yzv,zne,e,zDU l fun q hq=>h q (Yze _ hq),z];rfl
def jk(l:List Zq):List Zq:=l.mergeSort leB
theorem zDM(l:List Zq):(jk l).Perm l:=List.mergeSort_perm l leB
theorem zDk(l:List Zq):(jk l).Pairwise leP:=by
 have h:=List.pairwise_mergeSort (le:=leB) (fun a b c h1 h2=>kz.2 (zD0 (kz.1 h1) (kz.1 h2))) (fun a b=>by
  cases h:leB a b with
  |true=>rfl
  |false=>
   rw[Yz9]
   grind[kz,leP]) l
 exact h.imp fun h=>kz.1 h
theorem zES{l:List Zq}(h:l.length≤100000)(hz:∀p∈l,zvE p):zA9 2 (ocP l)=some (ocP (jk l)):=by
 have e:ocP l=some (l.map zBt):=rfl;rw[e];unfold zA9;simp only[zDU l hz];have hb:Nat.ble ((l.map zEd).length+1) 4611686018427387904=true:=Yzf (by grind);rw[hb,Yza];have:(za9 (l.map zEd)).map enZ=(jk l).map zBt:=by unfold za9 jk;rw[←List.map_mergeSort (r:=leB) (f:=zEd) (fun a _ b _=>rfl),List.map_map];rfl
 rw[this];rfl
theorem zDc(v:Sl Zq)(hl:v.els.length≤1000)(hz:∀p∈v.els,zvE p):∃(w:OC) (r:Sl Zq),zA9 2 (ocL zBt v)=some w∧r.els.Pairwise ltP∧(∀y,y∈r.els↔y∈v.els)∧
  ((xR w<2∧mkL 2 w=enL 2 zBt r)∨(¬xR w<2∧(zA jn [I6 1] [w]=some (.exit 0,[],[ocL zBt r])∨zA jn [I6 1] [w]=some (.ret,[enL 2 zBt r],[])))):=by
 cases v with
 |none=>exact⟨none,none,rfl,.nil,fun y=>Iff.rfl,.inl ⟨by decide,rfl⟩⟩
 |some q=>
  rw[xw]at hl hz;have hp:=zDM q;have hs:=zDk q;have hlen:(jk q).length=q.length:=hp.length_eq;have e:=zES (l:=q) (by omega) hz;by_cases h2:(jk q).length<2
  ·refine⟨ocP (jk q),some (jk q),e,?_,fun y=>hp.mem_iff,.inl ⟨by simp_all,kK _⟩⟩;rw[xw];generalize jk q=l at h2;cases l with
   |nil=>exact .nil
   |cons x l=>cases l<;>grind
  ·have k1:Kept (jk q) ((jk q).take 1) 1:=⟨by
    generalize jk q=l;cases l<;>simp_all,fun y=>Iff.rfl⟩
   obtain⟨acc,ha,hk⟩:=zFz (jk q) (jk q).length rfl hs (by omega) ((jk q).length-1) 1 (by omega) (by omega) k1;have hk':=zEl rfl hk;refine⟨ocP (jk q),some acc,e,hk'.1,fun y=>(hk'.2 y).trans hp.mem_iff,.inr ⟨by simp_all,?_⟩⟩;trivial
theorem t96(k:Nat)(rs:Sl Zj)(s:Zr)(hs:s.ok)(key:Int)(hd:(zzw s key).draws.els.length≤900)(hz:∀y∈ztm rs.els key (zzw s key).draws.els,zvE y):
  ∃v:Sl Zq,D (k+4) 96 [S1 (enL 6 enR rs),SA (vB s),S1 (I6 key)]=some (S1 (enL 2 zBt v))∧v.els.Pairwise ltP∧∀y,y∈v.els↔y∈ztm rs.els key (zzw s key).draws.els:=by
 have c:=t117 k s hs key;unfold vB at c ⊢;rw[D96];unfold P96;rw[c];generalize hg:(zzw s key).draws=ds at hd hz ⊢;have hg2:atD (enS (zzw s key)) 2=enL 2 enD ds:=by rw[←hg];rfl
 rw[zAG (show (enS (zzw s key)).length=3 from rfl)];simp only[hg2,zD,zb];obtain⟨v,e1,e2⟩:=zFR (k+2) rs key ds _ hg2 ds.els 0 none rfl (by simp;omega) (by omega);rw[show (I6 0:DV)=I6 ((0:Nat):Int) from rfl,show (none:OC)=ocL zBt none from rfl,e1];have hl:v.els.length≤900:=by grind
 have hmem:∀y,y∈v.els↔y∈ztm rs.els key ds.els:=fun y=>by grind[ztm]
 obtain⟨w,r,f1,f2,f3,f4⟩:=zDc v (by omega) fun p hp=>hz p ((hmem p).1 hp);refine⟨r,?_,f2,fun y=>(f3 y).trans (hmem y)⟩;simp only[yq,yM,Yzp,Yza,f1,zb,xy,zj,zn,YzD];rcases f4 with⟨q1,q2⟩|⟨q1,q2⟩
 ·grind
 ·have:¬((xR w:Nat):Int)<2:=by omega
  rw[Yzb this];rcases q2 with q2|q2<;>simp_all
end Go.Proofs.Tryz.Kn
end
section
namespace Go.Proofs.Tryz.Kn
open Go Go.CE Go.PE
abbrev y1:=Zq
theorem zFU(a:Int):zvq a 1=0∨zvq a 1=1:=by
 unfold zvq;have h:(BitVec.ofInt IntKind.u64.bits a &&& BitVec.ofInt IntKind.u64.bits 1).toNat=(BitVec.ofInt IntKind.u64.bits a).toNat % 2:=by grind
 rw[h];have:(BitVec.ofInt IntKind.u64.bits a).toNat % 2=0∨(BitVec.ofInt IntKind.u64.bits a).toNat % 2=1:=by omega
 rcases this with e|e<;>rw[e]
 ·trivial
 ·trivial
theorem zEP(a:Int)(i:Nat):(zvq (zh7 a i) 1==0)=!bit a i:=by grind[bit,zFU]
structure Fit (o:Org) (r:Reg):Prop where
 dl:o.divs.els.length≤3
 cl:o.cpls.els.length≤3
 sl:∀d∈o.divs.els,d.stops.els.length≤3
 rng:∀d∈o.divs.els,0≤d.low∧d.low≤d.high∧d.high≤d.low+8∧d.high≤127
 dst:∀x∈o.cpls.els,0≤x.dst∧x.dst<(o.divs.els.length:Int)
 shf:∀x∈o.cpls.els,-1000≤x.shift∧x.shift≤1000
 stp:∀d∈o.divs.els,∀s∈d.stops.els,s.ok∧∀key,(zzw s key).draws.els.length≤2
 sml:∀(key:Int) (ds:List Zn) (y:Zq),y∈ztm o.ranks.els key ds→zvE y
 rl:r.stops.els.length=o.divs.els.length
def inR(o:Org)(c:y1):Bool:=
 match c.rank with
 | .ofNat n=>(match o.divs.els[n]? with|some d=>decide (d.low≤c.num)&&decide (c.num≤d.high)|none=>false)
 |_=>false
theorem jf{o:Org}{c:y1}:inR o c=true↔∃(n:Nat) (d:Zo),c.rank=(n:Int)∧o.divs.els[n]? = some d∧d.low≤c.num∧c.num≤d.high:=by
 unfold inR
 constructor
 ·intro h;split at h<;>grind
 ·simp_all
def dest(c:y1)(x:Cpl):y1:=⟨x.dst,c.num+x.shift⟩
def goes(o:Org)(r:Reg)(c:y1)(thr:Bool)(i:Nat)(x:Cpl):Bool:=bit r.cpls i&&(x.src==c.rank)&&(!thr||x.thr)&&inR o (dest c x)
def push(q:List y1)(c:y1):List y1:=if c∈q then q else q++[c]
def je(o:Org)(r:Reg)(c:y1)(thr:Bool):Nat→List Cpl→List y1→List y1
 |_,[],q=>q
 |i,x::l,q=>je o r c thr (i+1) l (if goes o r c thr i x=true then push q (dest c x) else q)
theorem zDG(q:List y1)(c:y1):(push q c).length≤q.length+1:=by grind[push]
theorem zDd{q:List y1}{c y:y1}:y∈push q c↔y∈q∨y=c:=by grind[push]
theorem zDP{q:List y1}{c:y1}(h:q.Nodup):(push q c).Nodup:=by grind[push]
theorem zEh{q:List y1}{c:y1}{j:Nat}{y:y1}(h:q[j]? = some y):(push q c)[j]? = some y:=by grind[push]
theorem zDL(o:Org)(r:Reg)(c:y1)(thr:Bool):∀(l:List Cpl) (i:Nat) (q:List y1),(je o r c thr i l q).length≤q.length+l.length
 | [],_,q=>LzB _
 |x::l,i,q=>by
  have:=zDL o r c thr l (i+1) (if goes o r c thr i x=true then push q (dest c x) else q)
  grind[zDG,je]
theorem jj(o:Org)(r:Reg)(c:y1)(thr:Bool):∀(l:List Cpl) (i:Nat) (q:List y1),q.Nodup→(je o r c thr i l q).Nodup
 | [],_,_,h=>h
 |x::l,i,q,h=>by
  refine jj o r c thr l (i+1) _ ?_
  grind[zDP]
theorem jp(o:Org)(r:Reg)(c:y1)(thr:Bool){j:Nat}{y:y1}:∀(l:List Cpl) (i:Nat) (q:List y1),q[j]? = some y→(je o r c thr i l q)[j]? = some y
 | [],_,_,h=>h
 |x::l,i,q,h=>by
  refine jp o r c thr l (i+1) _ ?_
  grind[zEh]
theorem jb(o:Org)(r:Reg)(c:y1)(thr:Bool){y:y1}:∀(l:List Cpl) (i:Nat) (q:List y1),y∈je o r c thr i l q↔y∈q∨∃(j:Nat) (x:Cpl),l[j]? = some x∧goes o r c thr (i+j) x=true∧y=dest c x
 | [],i,q=>by simp[je]
 |x::l,i,q=>by
  rw[je,jb o r c thr l (i+1)]
  constructor
  ·rintro (h|⟨j,z,h1,h2,h3⟩)
   ·split at h
    ·rename_i hg;rcases zDd.1 h with h|h
     ·grind
     ·exact .inr ⟨0,x,rfl,hg,h⟩
    ·grind
   ·exact .inr ⟨j+1,z,by trivial,by grind,h3⟩
  ·rintro (h|⟨j,z,h1,h2,h3⟩)
   ·grind[zDd]
   ·cases j with
    |zero=>simp_all[zDd]
    |succ j=>grind
section
variable {o:Org} {r:Reg} (F:Fit o r)
include F
omit F in
theorem zEm{c:y1}{thr:Bool}{i:Nat}{x:Cpl}(h:goes o r c thr i x=true):inR o (dest c x)=true:=by simp_all[goes]
inductive Reach (o:Org) (r:Reg) (c:y1):y1→Prop
 |one (i:Nat) (x:Cpl):o.cpls.els[i]? = some x→goes o r c false i x=true→Reach o r c (dest c x)
 |more (y:y1) (i:Nat) (x:Cpl):Reach o r c y→o.cpls.els[i]? = some x→goes o r y true i x=true→Reach o r c (dest y x)
omit F in
theorem Reach.inR{c y:y1}(h:Reach o r c y):inR o y=true:=by cases h<;>grind[zEm]
def zEK(o:Org)(n:Nat):Int:=match o.divs.els[n]? with|some d=>d.low|none=>0
def code(o:Org)(c:y1):Nat:=c.rank.toNat*9+(c.num-zEK o c.rank.toNat).toNat
theorem zEO{c:y1}(h:inR o c=true):code o c<27:=by
 obtain⟨n,d,h1,h2,h3,h4⟩:=jf.1 h;have hn:=(Lz0.1 h2).1;have:=F.dl;have:=F.rng d (Lz3 h2)
 grind[code,zEK]
theorem zEo{a b:y1}(ha:inR o a=true)(hb:inR o b=true)(h:code o a=code o b):a=b:=by
 obtain⟨n,d,h1,h2,h3,h4⟩:=jf.1 ha;obtain⟨m,e,g1,g2,g3,g4⟩:=jf.1 hb;have r1:=F.rng d (Lz3 h2);have r2:=F.rng e (Lz3 g2);unfold code zEK at h;rw[h1,g1,YzE,YzE,h2,g2]at h;simp only at h;have hnm:n=m:=by omega
 subst hnm;rw[h2]at g2;cases g2;cases a with|mk ar an=>
 cases b<;>grind
omit F in
theorem zDI:∀{l m:List Nat},l.Nodup→(∀z∈l,z∈m)→l.length≤m.length
 | [],m,_,_=>Yzo _
 |x::l,m,h,H=>by
  have h':=List.nodup_cons.1 h;obtain⟨a,b,rfl⟩:=List.append_of_mem (H x (Yzg ..));have:=zDI (l:=l) (m:=a++b) h'.2 fun z hz=>by grind
  grind
theorem jv{q:List y1}(hd:q.Nodup)(h:∀y∈q,inR o y=true):q.length≤27:=by
 have h1:(q.map (code o)).Nodup:=by induction q<;>grind[zEo,Yzg]
 have:=zDI h1 (m:=List.range 27) fun z hz=>by
  obtain⟨y,hy,rfl⟩:=List.mem_map.1 hz
  grind[zEO]
 grind
theorem zD1{c:y1}(h:inR o c=true):-100000≤c.num∧c.num≤100000:=by obtain⟨n,d,h1,h2,h3,h4⟩:=jf.1 h;have:=F.rng d (Lz3 h2);omega
structure Que (o:Org) (r:Reg) (c:y1) (q:List y1) (i:Nat):Prop where
 nd:q.Nodup
 re:∀y∈q,Reach o r c y
 fst:∀(j:Nat) (x:Cpl),o.cpls.els[j]? = some x→goes o r c false j x=true→dest c x∈q
 cls:∀(m:Nat) (y:y1),m<i→q[m]? = some y→∀(j:Nat) (x:Cpl),o.cpls.els[j]? = some x→goes o r y true j x=true→dest y x∈q
omit F in
theorem zEH{c:y1}{q:List y1}(H:Que o r c q q.length):∀y,y∈q↔Reach o r c y:=by
 refine fun y=>⟨H.re y,fun h=>?_⟩
 induction h with
 |one i x h1 h2=>exact H.fst i x h1 h2
 |more z i x _ h1 h2 ih=>obtain⟨m,hm⟩:=Yyk ih;exact H.cls m z (Lz0.1 hm).1 hm i x h1 h2
def zDp(o:Org)(r:Reg)(c y:y1):Prop:=Reach o r c y∨(bit r.off c.rank.toNat=false∧y=c)
end
end Go.Proofs.Tryz.Kn
end
section
namespace Go.Proofs.Tryz.Kn
open Go Go.CE Go.PE
theorem zDK{α:Type}{f:α→List DV}(v:Sl α)(l:List α):∃v':Sl α,zdU (ocL f v) (l.map f)=ocL f v'∧v'.els=v.els++l:=by
 cases l with
 |nil=>exact⟨v,rfl,by simp⟩
 |cons y l=>exact⟨some (v.els++y::l),by
   show some (zG (ocL f v)++_)=_
   grind[x9,zaB],rfl⟩
def zDy(o:Org)(r:Reg)(n:Nat)(key:Int)(y:Zq):Prop:=
 ∃(d:Zo) (s:Int) (j:Nat) (t:Zr),o.divs.els[n]? = some d∧r.stops.els[n]? = some s∧d.stops.els[j]? = some t∧bit s j=true∧y∈ztm o.ranks.els key (zzw t key).draws.els
def zDR(o:Org)(r:Reg)(c:y1)(y:Zq):Prop:=∃c',zDp o r c c'∧zDy o r c'.rank.toNat c'.num y
def zFg(o:Org)(r:Reg)(n:Nat)(key:Int)(v:Sl Zq):Prop:=v.els.length≤1000∧v.els.Pairwise ltP∧∀y,y∈v.els↔zDR o r ⟨(n:Int),key⟩ y
structure Rows (o:Org) (C:Nat→Int→Sl Zq→Prop) (T:List (List (Sl Zq))):Prop where
 row:∀(n:Nat) (d:Zo) (row:List (Sl Zq)),o.divs.els[n]? = some d→T[n]? = some row→(row.length:Int)=d.high-d.low+1∧∀(i:Nat) (v:Sl Zq),row[i]? = some v→C n (d.low+(i:Int)) v
section
variable {o:Org} {r:Reg} (F:Fit o r)
include F
end
end Go.Proofs.Tryz.Kn
end
section
namespace Go.Proofs.Tryz.Kn
open Go Go.CE Go.PE
structure Twin (o:Org) (A B:List (List (Sl Zq))):Prop where
 al:A.length=o.divs.els.length
 bl:B.length=o.divs.els.length
 row:∀(n:Nat) (d:Zo) (x y:List (Sl Zq)),o.divs.els[n]? = some d→A[n]? = some x→B[n]? = some y→x.length=y.length∧x.length≤9∧(∀v∈x,v.els.length≤1000)∧(∀v∈y,v.els.length≤1000)
section
variable {o:Org} {A B:List (List (Sl Zq))} (W:Twin o A B) (hdl:o.divs.els.length≤3) (hrng:∀d∈o.divs.els,0≤d.low∧d.low≤127) {f:DV} {H:Sl Zq→Sl Zq→Bool} {k:Nat}
 (hf:∀x y:Sl Zq,x.els.length≤1000→y.els.length≤1000→zhR (D k) f [S1 (enL 2 zBt x),S1 (enL 2 zBt y)]=some (S1 (Bo (H x y))))
end
def In(o:Org)(r s:Reg):Prop:=∀c,inR o c=true→∀z,zDR o r c z→zDR o s c z
end Go.Proofs.Tryz.Kn
end
section
namespace Go.Proofs.Tryz.Kn
open Go Go.CE Go.PE
structure Le (o:Org) (r s:Reg):Prop where
 c:∀(i:Nat) (x:Cpl),o.cpls.els[i]? = some x→bit r.cpls i=true→bit s.cpls i=true
 f:∀(n:Nat) (d:Zo),o.divs.els[n]? = some d→bit s.off n=true→bit r.off n=true
 t:∀(n:Nat) (d:Zo) (x:Int) (j:Nat) (t:Zr),o.divs.els[n]? = some d→r.stops.els[n]? = some x→d.stops.els[j]? = some t→bit x j=true→∃y,s.stops.els[n]? = some y∧bit y j=true
section
variable {o:Org} {r s:Reg} (L:Le o r s)
include L
theorem zDZ{c:y1}{thr:Bool}{i:Nat}{x:Cpl}(hx:o.cpls.els[i]? = some x)(h:goes o r c thr i x=true):goes o s c thr i x=true:=by unfold goes at h ⊢;simp only[LzC]at h ⊢;exact⟨⟨⟨L.c i x hx h.1.1.1,h.1.1.2⟩,h.1.2⟩,h.2⟩
theorem zEk{c y:y1}(h:Reach o r c y):Reach o s c y:=by
 induction h with
 |one i x h1 h2=>exact .one i x h1 (zDZ L h1 h2)
 |more z i x _ h1 h2 ih=>exact .more z i x ih h1 (zDZ L h1 h2)
theorem zFl:In o r s:=by
 intro c hc z hz;obtain⟨c',h1,d,x,j,t,e1,e2,e3,e4,e5⟩:=hz;obtain⟨y,g1,g2⟩:=L.t _ d x j t e1 e2 e3 e4;refine⟨c',?_,d,y,j,t,e1,g1,e3,g2,e5⟩;rcases h1 with h1|⟨h1,h2⟩
 ·exact .inl (zEk L h1)
 ·refine .inr ⟨?_,h2⟩;obtain⟨n,d,q1,q2,_,_⟩:=jf.1 hc;rw[q1,YzE]at h1 ⊢;cases hb:bit s.off n with
  |false=>rfl
  |true=>rw[L.f n d q2 hb]at h1;cases h1
end
theorem ky{rs:List Zj}{low high:Int}:∀{l:List Pul} {i:Nat} {s:Zr},s∈wR rs low high i l→∃j x,s=qI rs low high j x
 | [],_,_,h=>by cases h
 |x::l,i,s,h=>by
  rcases Yzw.1 h with rfl|h
  ·grind
  ·exact ky h
theorem zEi(rs:List Zj)(low high:Int)(i:Nat)(x:Pul)(key:Int):(zzw (qI rs low high i x) key).draws.els.length≤2:=by
 have hall:∀n sh m sh2 a kd,∀g∈xV low high n sh m sh2 a kd,g.draws.els.length≤2:=by
  intro n sh m sh2 a kd;unfold xV
  grind
 unfold zzw;cases hf:(qI rs low high i x).segs.els.find? (zxg key) with
 |none=>simp[zsI]
 |some g=>exact hall _ _ _ _ _ _ g (List.mem_of_find?_eq_some hf)
theorem jy{rs:List Zj}:∀{l:List Boa} {i:Nat} {d:Zo},d∈uu rs i l→∃j b,b∈l∧d=zgY rs j b
 | [],_,_,h=>by cases h
 |b::l,i,d,h=>by
  rcases Yzw.1 h with rfl|h
  ·grind
  ·obtain⟨j,c,h1,h2⟩:=jy h
   grind
theorem jz{n:Nat}:∀{l:List Lnk} {i:Nat} {c:Cpl},c∈zaD n i l→∃j b,c=qX n j b
 | [],_,_,h=>by cases h
 |b::l,i,d,h=>by
  rcases Yzw.1 h with rfl|h
  ·grind
  ·exact jz h
theorem zC8:∀(l:List RPl) (i:Nat),∀r∈vL i l,r.wind.els.length≤25
 | [],_,_,h=>by cases h
 |x::l,i,r,h=>by
  rcases Yzw.1 h with rfl|h
  ·show (jY x (1+x.pipes % 25)).length≤25
   grind[zcv]
  ·exact zC8 l _ r h
theorem zDN{rs:List Zj}(hl:rs.length≤60)(hw:∀r∈rs,r.wind.els.length≤25){key:Int}{ds:List Zn}{y:Zq}(h:y∈ztm rs key ds):zvE y:=by grind[ztm,zv4,zvE]
theorem zFt(p:Pln)(hf:zfP p=true)(b:Nat→Nat):Fit (zmp p) (ja (zmp p) b):=by
 obtain⟨f1,f2,f3,f4,f5,f6⟩:=zaR hf;obtain⟨s1,s2,s3⟩:=zlK p hf;have hdv:(zmp p).divs.els=uu (vL 0 p.ranks.els) 0 p.divs.els:=by grind[zmp,zK]
 have hcp:(zmp p).cpls.els=zaD p.divs.els.length 0 p.cpls.els:=by grind[zmp,zK]
 refine⟨s1,s3,s2,fun d hd=>?_,fun x hx=>?_,fun x hx=>?_,fun d hd s hs=>?_,fun key ds y hy=>?_,?_⟩
 ·rw[hdv]at hd;obtain⟨j,b,_,rfl⟩:=jy hd;have q1:=zix b;have q2:=zfL b;show 0≤zg3 b∧zg3 b≤zdf b∧zdf b≤zg3 b+8∧zdf b≤127;omega
 ·rw[hcp]at hx;obtain⟨j,l,rfl⟩:=jz hx;rw[hdv,vR];have:=Yz6 l.dst (show p.divs.els.length > 0 by omega);show (0:Int)≤((l.dst % p.divs.els.length:Nat):Int)∧((l.dst % p.divs.els.length:Nat):Int)<_;omega
 ·rw[hcp]at hx;obtain⟨j,l,rfl⟩:=jz hx;have q1:(l.shift.tmod 25).natAbs<25:=by
   grind
  show -1000≤(if _ then 12 else l.shift.tmod 25)∧(if _ then 12 else l.shift.tmod 25)≤1000
  grind
 ·rw[hdv]at hd;obtain⟨j,b,_,rfl⟩:=jy hd;have hs:s∈(grow (wR (vL 0 p.ranks.els) (zg3 b) (zdf b) 0 b.stops.els)).els:=hs;rw[zK]at hs;refine⟨zc5 _ _ _ _ _ s hs,fun key=>?_⟩;obtain⟨i,x,rfl⟩:=ky hs;exact zEi ..
 ·grind[zmp,zK,zDN,zaC,zC8]
 ·grind[ja,zK,jd]
end Go.Proofs.Tryz.Kn
end
section
namespace Go.Proofs.Tryz.Kn
open Go Go.CE Go.PE
def enM(c:y1):List DV:=[I6 c.rank,I6 c.num,Bo true]
theorem zD4(a b:y1):zhO (.inr [1,1]) (.agg [I6 a.rank,I6 a.num]) (.agg [I6 b.rank,I6 b.num])=some (decide (a=b)):=jw a b
theorem zD3(a:y1):∀q:List y1,zfQ (.inr [1,1]) 1051648 (.agg [I6 a.rank,I6 a.num]) (q.map enM)=some (if a∈q then some (.one (Bo true)) else none)
 | []=>rfl
 |b::q=>by have e:zhO (.inr [1,1]) (.agg [I6 a.rank,I6 a.num]) (kD 1051648 (enM b))=some (decide (a=b)):=zD4 a b;have v:vD 1051648 (enM b)=.one (Bo true):=rfl;rw[Yzv,zfQ,e,v,zD3 a q];by_cases h:a=b<;>simp[h]
theorem zEv(a:y1):∀q:List y1,a∉q→zpR (.inr [1,1]) 1051648 (.agg [I6 a.rank,I6 a.num]) [I6 a.rank,I6 a.num,Bo true] (q.map enM)=some ((q++[a]).map enM)
 | [],_=>rfl
 |b::q,h=>by simp only[Yzw,not_or]at h;have e:zhO (.inr [1,1]) (.agg [I6 a.rank,I6 a.num]) (kD 1051648 (enM b))=some (decide (a=b)):=zD4 a b;simp only[Yzv,zpR,e,decide_eq_false h.1,zEv a q h.2];rfl
theorem zEV(p:Prop)[Decidable p]:dsO (lkD (.one (Bo false)) (if p then some (DS.one (Bo true)) else none))=Bo (decide p):=by
 by_cases h:p
 ·rw[Yzd h,decide_eq_true h];rfl
 ·rw[Yzb h,decide_eq_false h];rfl
def stQ(q:List y1):List OC:=[ocL zBt (grow q),some (q.map enM)]
section
variable {o:Org} {r:Reg} (F:Fit o r)
include F
omit F in
theorem t81(k:Nat)(c:y1)(h1:0≤c.rank)(h2:c.rank<(o.divs.els.length:Int)):D (k+1) 81 [SA (enO o),SA [I6 c.rank,I6 c.num]]=some (S1 (I6 (if inR o c=true then 0 else 23))):=by
 obtain⟨n,hn⟩:∃n:Nat,c.rank=(n:Int):=⟨c.rank.toNat,by omega⟩;obtain⟨d,hd⟩:∃d,o.divs.els[n]? = some d:=⟨_,Lz5 (by omega)⟩;have iv:yW 5 (enL 5 enV o.divs) (I6 c.rank)=some (enV d):=by rw[hn,jB,hd];rfl
 have hin:inR o c=(decide (d.low≤c.num)&&decide (c.num≤d.high)):=by unfold inR;rw[hn];show (match o.divs.els[n]? with|some d=>decide (d.low≤c.num)&&decide (c.num≤d.high)|none=>false)=_;rw[hd]
 unfold enO;rw[D81];unfold P81;simp only[zj,zb,decide_eq_false (show ¬c.rank<0 by omega),zn,Yzh,if_false,zD,zaw,decide_eq_false (show ¬(o.divs.els.length:Int)≤c.rank by omega),iv,enV,xE,vh,yE,hin];by_cases a:c.num<d.low
 ·have:¬d.low≤c.num:=by omega
  simp[a,this]
 ·have:d.low≤c.num:=by omega
  by_cases b:d.high<c.num
  ·have h':¬c.num≤d.high:=by omega
   simp[a,b,h']
  ·have h':c.num≤d.high:=by omega
   simp[a,b,this,h']
theorem zDQ{G:List DV→List OC→Option PX}{thr:Bool}(k:Nat)(c:y1)(hc:-100000≤c.num∧c.num≤100000)(q:List y1)(hq:q.length≤1000)(i:Nat)(x:Cpl)(hx:o.cpls.els[i]? = some x)
  (hG:G=if thr=true then zDr (D (k+1)) (I6 (o.cpls.els.length:Int)) (enL 5 enC o.cpls) (U64 r.cpls) [I6 c.rank,I6 c.num] (St o.name) (enL 6 enR o.ranks) (enL 5 enV o.divs) else zDu (D (k+1)) (I6 (o.cpls.els.length:Int)) (enL 5 enC o.cpls) (U64 r.cpls) [I6 c.rank,I6 c.num] (St o.name) (enL 6 enR o.ranks) (enL 5 enV o.divs)):
  G [I6 (i:Int)] (stQ q)=some (.normal,[I6 ((i+1:Nat):Int)],stQ (if goes o r c thr i x=true then push q (dest c x) else q)):=by
 have hi:=(Lz0.1 hx).1;have hm:=Lz3 hx;have hcl:=F.cl;have ea:zc .add (I6 (i:Int)) (I6 1)=some (I6 ((i+1:Nat):Int)):=yQ;have ix:yW 5 (enL 5 enC o.cpls) (I6 (i:Int))=some (enC x):=by rw[jB,hx];rfl
 obtain⟨d1,d2⟩:=F.dst x hm;obtain⟨s1,s2⟩:=F.shf x hm;have ek:zc .add (I6 c.num) (I6 x.shift)=some (I6 (c.num+x.shift)):=yQ;have ct:=t81 k (dest c x) d1 d2;have ef:fits 16 ((grow q).els.length+1)=true:=wH (by decide) (by rw[zK];omega);have hdest:(dest c x).rank=x.dst∧(dest c x).num=c.num+x.shift:=⟨rfl,rfl⟩;have e1:=zD4 (dest c x) (dest c x);have e2:=zD3 (dest c x) q;have e3:=zEv (dest c x) q;rw[decide_eq_true rfl]at e1;have hp:(some ((grow q).els.map zBt++[[I6 x.dst,I6 (c.num+x.shift)]]):OC)=ocL zBt (grow (q++[dest c x])):=by rw[wi,←vJ];rfl
 rw[hdest.1,hdest.2]at ct e1 e2 e3;unfold enO at ct;unfold goes stQ;cases thr with
 |false=>
  rw[hG];simp only[Yzh,if_false,zDu,zz,yM,zbL,zj,zb,jX hi,zn,if_true,ix,zvd,zce,zzd,zEP,enC,xE,vh,Bool.not_false,Bool.true_or,Yyn,zab];cases hb:bit r.cpls i with
  |false=>simp[ea]
  |true=>
   simp only[Yyf,Yzh,if_false,zU,zb,zn,Yye];cases hs:(x.src==c.rank) with
   |false=>simp[ea]
   |true=>
    simp only[Yyf,Yzh,if_false,ek,zb,ct,zX,zO,zn,Yye];cases hr:inR o (dest c x) with
    |false=>simp[ea]
    |true=>
     simp only[if_true,Yzu,e1,e2,zb,zEV,yY,zn];by_cases hmem:dest c x∈q
     ·simp[hmem,ea,push]
     ·simp only[hmem,decide_false,Bool.not_false,if_true,e3 hmem,zb,xZ,ef,kR,ea,x9,hp,push,if_false]
 |true=>
  rw[hG];simp only[if_true,zDr,zz,yM,zbL,zj,zb,jX hi,zn,ix,zvd,zce,zzd,zEP,enC,xE,vh,Yyf,Yz9,zab];cases hb:bit r.cpls i with
  |false=>simp[ea]
  |true=>
   simp only[Yyf,Yzh,if_false,zU,zb,zn,Yye];cases hs:(x.src==c.rank) with
   |false=>simp[ea]
   |true=>
    simp only[Yyf,Yzh,if_false,yY,zb,zn,Yye];cases ht:x.thr with
    |false=>simp[ea]
    |true=>
     simp only[Yyf,Yzh,if_false,ek,zb,ct,zX,zO,zn,Yye];cases hr:inR o (dest c x) with
     |false=>simp[ea]
     |true=>
      simp only[if_true,Yzu,e1,e2,zb,zEV,yY,zn];by_cases hmem:dest c x∈q
      ·simp[hmem,ea,push]
      ·simp only[hmem,decide_false,Bool.not_false,if_true,e3 hmem,zb,xZ,ef,kR,ea,x9,hp,push,if_false]
theorem zC9{G:List DV→List OC→Option PX}{thr:Bool}(k:Nat)(c:y1)(hc:-100000≤c.num∧c.num≤100000)
  (hG:G=if thr=true then zDr (D (k+1)) (I6 (o.cpls.els.length:Int)) (enL 5 enC o.cpls) (U64 r.cpls) [I6 c.rank,I6 c.num] (St o.name) (enL 6 enR o.ranks) (enL 5 enV o.divs) else zDu (D (k+1)) (I6 (o.cpls.els.length:Int)) (enL 5 enC o.cpls) (U64 r.cpls) [I6 c.rank,I6 c.num] (St o.name) (enL 6 enR o.ranks) (enL 5 enV o.divs)):
  ∀(l:List Cpl) (i:Nat) (q:List y1),o.cpls.els.drop i=l→q.length+l.length≤1000→zA G [I6 (i:Int)] (stQ q)=some (.exit 0,[],stQ (je o r c thr i l q)):=by
 intro l
 induction l with
 |nil=>
  intro i q h _;refine zu ?_;rw[hG];cases thr
  ·simp only[Yzh,if_false,zDu,stQ,zz,yM,zbL,zj,zb,xY (ya h),zn,zab];rfl
  ·simp only[if_true,zDr,stQ,zz,yM,zbL,zj,zb,xY (ya h),zn,zab];rfl
 |cons x l ih=>
  intro i q h hq;simp only[Yzm]at hq;rw[zH (zDQ F k c hc q (by omega) i x (xa h) hG)];refine ih (i+1) _ (zP h) ?_
  grind[zDG]
theorem zDE(k:Nat)(c:y1):∀(f i:Nat) (q:List y1),Que o r c q i→i≤q.length→i+f=28→
    ∃q',zA (zDt (D (k+1)) (enL 5 enC o.cpls) (U64 r.cpls) (St o.name) (enL 6 enR o.ranks) (enL 5 enV o.divs)) [I6 (i:Int)] (stQ q)=some (.exit 2,[],stQ q')∧Que o r c q' q'.length:=by
  intro f
  induction f with
  |zero=>intro i q H hi hf;have:=jv F H.nd fun y hy=>(H.re y hy).inR;omega
  |succ f ih=>
    intro i q H hi hf;have hlen:=jv F H.nd fun y hy=>(H.re y hy).inR;by_cases hlt:i<q.length
    · obtain⟨y,hy⟩:∃y,q[i]? = some y:=⟨_,Lz5 hlt⟩
      have hym:=H.re y (Lz3 hy);have hcl:=F.cl;have ls:=zC9 F (thr:=true) k y (zD1 F hym.inR) rfl o.cpls.els 0 q rfl (by omega);rw[Yzd rfl]at ls;have ea:zc .add (I6 (i:Int)) (I6 1)=some (I6 ((i+1:Nat):Int)):=yQ;have hg:(grow q).els.length=q.length:=by rw[zK]
      have i1:xe (ocL zBt (grow q)) (I6 (i:Int))=some i:=by
        cases q with
        |nil=>simp at hlt
        |cons a q=>exact jC (by grind)
      have i2:jW (ocL zBt (grow q)) i=some (zBt y):=by
        cases q with
        |nil=>simp at hlt
        |cons a q=>
          show ((a::q).map zBt)[i]? = _
          grind
      have body:zDt (D (k+1)) (enL 5 enC o.cpls) (U64 r.cpls) (St o.name) (enL 6 enR o.ranks) (enL 5 enV o.divs) [I6 (i:Int)] (stQ q)=some (.normal,[I6 ((i+1:Nat):Int)],stQ (je o r y true 0 o.cpls.els q)):=by rw[show (I6 ((0:Nat):Int):DV)=I6 0 from rfl]at ls;unfold stQ at ls ⊢;simp only[zDt,zz,yM,zbL,xZ,hg,xy,zj,zb,jX hlt,zn,if_true,i1,i2,zBt,zD,zab,ls,yq,Yzp,Yza,ea]
      have HQ:Que o r c (je o r y true 0 o.cpls.els q) (i+1):=by
       refine⟨jj o r y true _ _ _ H.nd,fun z hz=>?_,fun j x h1 h2=>(jb o r y true _ _ _).2 (.inl (H.fst j x h1 h2)),fun m z hm hz j x h1 h2=>?_⟩
       · rcases (jb o r y true _ _ _).1 hz with hz|⟨j,x,h1,h2,h3⟩
         · exact H.re z hz
         · rw[Yzi]at h2
           rw[h3];exact .more y j x hym h1 h2
       · by_cases hmi:m=i
         · subst hmi
           have:=jp o r y true o.cpls.els 0 q hy;rw[hz]at this;cases this;exact(jb o r _ true _ _ _).2 (.inr ⟨j,x,h1,by grind,rfl⟩)
         · have hmi:m<i:=by omega
           obtain⟨w,hw⟩:∃w,q[m]? = some w:=⟨_,Lz5 (by omega)⟩;have:=jp o r y true o.cpls.els 0 q hw;rw[hz]at this;cases this;exact(jb o r y true _ _ _).2 (.inl (H.cls m _ hmi hw j x h1 h2))
      obtain⟨q',h1,h2⟩:=ih (i+1) (je o r y true 0 o.cpls.els q) HQ
        (by have:=jp o r y true o.cpls.els 0 q hy;grind) (by omega)
      exact⟨q',by rw[zH body,h1],h2⟩
    · have hi:i=q.length:=by omega
      subst hi;refine⟨q,zu ?_,H⟩;have hg:(grow q).els.length=q.length:=by rw[zK]
      unfold stQ;simp only[zDt,zz,yM,zbL,xZ,hg,xy,zj,zb,xY (LzB q.length),zn,zab];rfl
theorem t83(k:Nat)(c:y1)(hc:inR o c=true):∃S:Sl y1,D (k+2) 83 [SA (enO o),SA (yz r),S1 (.lst 2 [[I6 c.rank,I6 c.num]])]=some (S1 (enL 2 zBt S))∧S.els.length≤27∧(∀y,y∈S.els↔zDp o r c y)∧(∀y∈S.els,inR o y=true):=by
 obtain⟨n,d,hn,hd,hl1,hl2⟩:=jf.1 hc;have hnl:=(Lz0.1 hd).1;have hcl:=F.cl;have hnum:=zD1 F hc;have l1:=zC9 F (thr:=false) k c hnum rfl o.cpls.els 0 [] rfl (by simp;omega);simp only[Yzh,if_false]at l1;have hq0:Que o r c (je o r c false 0 o.cpls.els []) 0:=⟨jj o r c false _ _ _ List.nodup_nil,fun y hy=>by
   rcases (jb o r c false _ _ _).1 hy with hy|⟨j,x,h1,h2,h3⟩
   ·cases hy
   ·rw[Yzi]at h2;rw[h3];exact .one j x h1 h2,fun j x h1 h2=>(jb o r c false _ _ _).2 (.inr ⟨j,x,h1,by grind,rfl⟩),fun m y hm=>by omega⟩
 generalize je o r c false 0 o.cpls.els []=q0 at l1 hq0;obtain⟨q,h1,h2⟩:=zDE F k c 28 0 q0 hq0 (Yzo _) rfl;have hall:=zEH h2;have hlen:=jv F h2.nd fun y hy=>(h2.re y hy).inR;have hb:zc .eql (U64 (zvq (zh7 r.off n) 1)) (U64 0)=some (Bo (!bit r.off n)):=by rw[zzd,zEP]
 let out:Sl y1:=if bit r.off n=true then none else some [c]
 have hout:out.els.length≤1∧∀y,y∈out.els↔(bit r.off n=false∧y=c):=by show (if bit r.off n=true then none else some [c]:Sl y1).els.length≤1∧∀y,y∈(if bit r.off n=true then none else some [c]:Sl y1).els↔_;cases bit r.off n<;>simp
 have ef1:fits 16 (0+1)=true:=by decide
 have b1:zEr (D (k+1)) (I6 1) (.lst 2 [[I6 c.rank,I6 c.num]]) (enL 5 enC o.cpls) (U64 r.cpls) (St o.name) (enL 6 enR o.ranks) (enL 5 enV o.divs) (U64 r.off) [I6 0] [none,none,some []]=some (.normal,[I6 1],[ocL zBt (grow q0),ocL zBt out,some (q0.map enM)]):=by
  have ix:yW 2 (.lst 2 [[I6 c.rank,I6 c.num]]) (I6 0)=some [I6 c.rank,I6 c.num]:=rfl;have lt:zc .lss (I6 0) (I6 1)=some (Bo true):=rfl;have ad:zc .add (I6 0) (I6 1)=some (I6 1):=rfl;have l1':=l1;rw[show (I6 ((0:Nat):Int):DV)=I6 0 from rfl]at l1';unfold stQ at l1';rw[show ocL zBt (grow ([]:List y1))=none from rfl,show (([]:List y1).map enM)=[] from rfl]at l1';have hs:z7 false (U64 r.off) (I6 c.rank)=some (U64 (zh7 r.off n)):=by rw[hn];exact zvd _ _
  simp only[zEr,zz,yM,zbL,lt,zb,zn,if_true,ix,zD,zab,l1',yq,Yzp,Yza,xE,vh,hs,zce,hb,ad];show _=some (Zg.normal,[I6 1],[ocL zBt (grow q0),ocL zBt (if bit r.off n=true then none else some [c]:Sl y1),some (q0.map enM)]);cases bit r.off n<;>rfl
 have b2:zEr (D (k+1)) (I6 1) (.lst 2 [[I6 c.rank,I6 c.num]]) (enL 5 enC o.cpls) (U64 r.cpls) (St o.name) (enL 6 enR o.ranks) (enL 5 enV o.divs) (U64 r.off) [I6 1] [ocL zBt (grow q0),ocL zBt out,some (q0.map enM)]=some (.exit 0,[],[ocL zBt out,ocL zBt (grow q0),some (q0.map enM)]):=rfl;obtain⟨v1,a1,a2⟩:=zDK (f:=zBt) out q;have hm:∀y,y∈v1.els↔zDp o r c y:=fun y=>by
  rw[a2,List.mem_append,hout.2 y,hall y];unfold zDp;rw[show c.rank.toNat=n by omega]
  constructor
  ·rintro (h|h)
   ·exact .inr h
   ·exact .inl h
  ·rintro (h|h)
   ·exact .inr h
   ·exact .inl h
 have hinr:∀y,zDp o r c y→inR o y=true:=by
  rintro y (h|⟨_,rfl⟩)
  ·exact h.inR
  ·exact hc
 obtain⟨w,u,f1,f2,f3,f4⟩:=zDc v1 (by rw[a2,Yzq];omega) fun p hp=>by obtain⟨n',d',g1,g2,g3,g4⟩:=jf.1 (hinr p ((hm p).1 hp));have hl:=(Lz0.1 g2).1;have hdl:=F.dl;have hr:=F.rng d' (Lz3 g2);exact⟨by omega,by omega,by omega,by omega⟩
 refine⟨u,?_,jv F (List.Pairwise.imp (S:=fun a b=>a≠b) (fun h e=>by subst e;exact lt_irrefl h) f2) fun y hy=>hinr y ((hm y).1 ((f3 y).1 hy)),fun y=>(f3 y).trans (hm y),fun y hy=>hinr y ((hm y).1 ((f3 y).1 hy))⟩;have ef:fits 16 (out.els.length+q.length)=true:=wH (by decide) (by omega);rw[show (I6 ((0:Nat):Int):DV)=I6 0 from rfl]at h1;unfold stQ at h1;have hl1:zY (.lst 2 [[I6 c.rank,I6 c.num]])=some (I6 1):=rfl;unfold enO yz;rw[D83];unfold P83;simp only[hl1,zb,zH b1,zu b2,yq,Yzp,Yza,yM,zbL,zab,h1,xZ,x9,Yzj,zK,ef,kR,a1,f1,xy,zj,zn,YzD,show zEC=jn from rfl];rcases f4 with⟨q1,q2⟩|⟨q1,q2⟩
 ·have:((xR w:Nat):Int)<2:=by omega
  rw[Yzd this,q2]
 ·have:¬((xR w:Nat):Int)<2:=by omega
  rw[Yzb this];rcases q2 with q2|q2
  ·rw[q2];simp only[yq,Yzp,Yza,yM,kK]
  ·rw[q2];rfl
end
end Go.Proofs.Tryz.Kn
end
