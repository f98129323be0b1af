/-
  Lemmas: Pfa, Rda, Bs, Oa, Osh, Ob, Oc, Od, Oe, Of, Oq, Ot. No condition.
-/
import Derived.Test.YtekpghfdglhonaaGreatDoorVd
import Derived.Test.YtekpghfdglhonaaGreatDoorUk
import Derived.Test.YtekpghfdglhonaaGreatDoorUm
import Derived.Test.YtekpghfdglhonaaGreatDoorProg
noncomputable section
namespace Go.Proofs.Tryz.Kn
open Go Go.CE Go.PE
abbrev prog:Program:=Tryz.prog
def tabI:Nat→Bool:=fun g=>match g with|32=>true|34=>true|37=>true|_=>false
abbrev redI:Red:=zrh
def an0:Nat→Option LA:=fun _=>none
def anI0:Nat→List PA→Nat→Nat→Option LA:=fun _ _ _ _=>none
abbrev pF(O:Orc)(an:Nat→Option LA)(g:Nat)(args:List DA):Option DA:=pFun prog O tabI (inl prog O tabI anI0 redI 3) an g args
def P3(O:Orc)(a0_0 a0_1 a0_2 a1_0 a1_1 a1_2 a1_3 a1_4 a2_0 a2_1 a2_2:DV):Option DA:=
  b1 (O 5 []) fun v0=>
 za (pNot v0) fun v1=>
 ifB v1
 (b1 (O 5 []) fun v2=>
 some (S1 v2))
 (b1 (O 6 [SA [a0_0,a0_1,a0_2]]) fun v3=>
 za (pNot v3) fun v4=>
 ifB v4
 (b1 (O 5 []) fun v5=>
 some (S1 v5))
 (bA 4 (O 7 [SA [a0_0,a0_1,a0_2]]) fun g6=>
 bA 3 (O 8 [SA [atD g6 0,atD g6 1,atD g6 2,atD g6 3],SA [a1_0,a1_1,a1_2,a1_3,a1_4]]) fun g7=>
 bT [none,none] (O 9 [SA [atD g6 0,atD g6 1,atD g6 2,atD g6 3],SA [atD g7 0,atD g7 1,atD g7 2]]) fun t8=>
 bT [some 3,none] (O 10 [SA [atD g6 0,atD g6 1,atD g6 2,atD g6 3],SA [atD g7 0,atD g7 1,atD g7 2],SA [a2_0,a2_1,a2_2]]) fun t9=>
 b1 (O 11 [SA [atD g6 0,atD g6 1,atD g6 2,atD g6 3],SA [atD g7 0,atD g7 1,atD g7 2]]) fun v10=>
 za (pBin .neq (dsO (dsAt t8 1)) (I6 0)) fun v11=>
 ifB v11
 (some (S1 (.bool false)))
 (b1 (O 12 [S1 (dsO (dsAt t8 0)),S1 v10]) fun v12=>
 za (pNot v12) fun v13=>
 ifB v13
 (some (S1 (.bool false)))
 (bA 3 (O 8 [SA [atD g6 0,atD g6 1,atD g6 2,atD g6 3],SA [a1_0,a1_1,a1_2,a1_3,a1_4]]) fun g14=>
 b1 (O 13 [SA [atD g7 0,atD g7 1,atD g7 2],SA [atD g14 0,atD g14 1,atD g14 2]]) fun v15=>
 za (pNot v15) fun v16=>
 ifB v16
 (some (S1 (.bool false)))
 (b1 (O 14 [S1 v10,SA [a2_0,a2_1,a2_2]]) fun v17=>
 za (pNot v17) fun v18=>
 ifB v18
 (za (pBin .eql (dsO (dsAt t9 1)) (I6 11)) fun v19=>
 ifB v19
 (b1 (O 13 [SA [atD (dsA (dsAt t9 0)) 0,atD (dsA (dsAt t9 0)) 1,atD (dsA (dsAt t9 0)) 2],SA [.nils,U64 0,U64 0]]) fun v20=>
 some (S1 v20))
 (some (S1 (.bool false))))
 (za (pBin .eql (dsO (dsAt t9 1)) (I6 0)) fun v21=>
 ifB v21
 (bA 3 (O 15 [SA [atD g7 0,atD g7 1,atD g7 2],SA [a2_0,a2_1,a2_2]]) fun g22=>
 b1 (O 13 [SA [atD (dsA (dsAt t9 0)) 0,atD (dsA (dsAt t9 0)) 1,atD (dsA (dsAt t9 0)) 2],SA [atD g22 0,atD g22 1,atD g22 2]]) fun v23=>
 some (S1 v23))
 (some (S1 (.bool false)))))))))
theorem p3(O:Orc)(a0_0 a0_1 a0_2 a1_0 a1_1 a1_2 a1_3 a1_4 a2_0 a2_1 a2_2:DV):pF O an0 3 [SA [a0_0,a0_1,a0_2],SA [a1_0,a1_1,a1_2,a1_3,a1_4],SA [a2_0,a2_1,a2_2]]=P3 O a0_0 a0_1 a0_2 a1_0 a1_1 a1_2 a1_3 a1_4 a2_0 a2_1 a2_2:=by kernel_rfl
def an6:Nat→Option LA:=fun i=>match i with|0=>some ⟨[.slot 3],[],[],[],[],[],[.slot 2],[],[]⟩|_=>none
def zlU(a0_1:DV)(L12:List DV)(_M13:List OC):Option PX:=
  za (pLen a0_1) fun v14=>
 za (pBin .lss (nthD L12 0) v14) fun v15=>
 ifB v15
 (za (pIdx 4 a0_1 (nthD L12 0)) fun x16=>
 za (pLen (atD x16 3)) fun v17=>
 za (pBin .gtr v17 (I6 3)) fun v18=>
 ifB v18
 (some (.ret,[.bool false],[]))
 (za (pBin .add (nthD L12 0) (I6 1)) fun v19=>
 some (.normal,[v19],[])))
 (some (.exit 0,[],[]))
def P6(_O:Orc)(a0_0 a0_1 a0_2:DV):Option DA:=
  za (pLen a0_0) fun v0=>
 za (pBin .lss v0 (I6 1)) fun v1=>
 ifB v1
 (some (S1 (.bool false)))
 (za (pLen a0_0) fun v2=>
 za (pBin .gtr v2 (I6 3)) fun v3=>
 ifB v3
 (some (S1 (.bool false)))
 (za (pLen a0_1) fun v4=>
 za (pBin .lss v4 (I6 1)) fun v5=>
 ifB v5
 (some (S1 (.bool false)))
 (za (pLen a0_1) fun v6=>
 za (pBin .gtr v6 (I6 3)) fun v7=>
 ifB v7
 (some (S1 (.bool false)))
 (za (pLen a0_2) fun v8=>
 za (pBin .gtr v8 (I6 3)) fun v9=>
 ifB v9
 (some (S1 (.bool false)))
 (y4 (zP (zlU a0_1) [I6 0] [])
 (fun i20 _L10 _M11=>bif Nat.beq i20 0 then
 (some (S1 (.bool true)))
 else(none))
 (fun L10 _M11=>some (S1 (nthD L10 0))))))))
theorem p6(O:Orc)(a0_0 a0_1 a0_2:DV):pF O an6 6 [SA [a0_0,a0_1,a0_2]]=P6 O a0_0 a0_1 a0_2:=by kernel_rfl
def an7:Nat→Option LA:=fun i=>match i with|0=>some ⟨[.slot 4,.cell 2 0],[(.cell 2 1,6),(.cell 2 2,5),(.cell 2 3,5)],[(2,4)],[],[.cell 2 0],[(.cell 2 1,6),(.cell 2 2,5),(.cell 2 3,5)],[.cell 2 0,.cell 2 1,.cell 2 2,.cell 2 3],[],[]⟩|1=>some ⟨[.slot 5,.cell 2 0,.cell 2 1],[(.cell 2 2,5),(.cell 2 3,5)],[(2,4)],[],[.cell 2 0,.cell 2 1],[(.cell 2 2,5),(.cell 2 3,5)],[.cell 2 0,.cell 2 1,.cell 2 2,.cell 2 3],[],[3]⟩|2=>some ⟨[.slot 9,.cell 10 0,.cell 10 1,.cell 10 2,.cell 10 3],[(.cell 10 4,4)],[(10,5)],[],[.cell 10 0,.cell 10 1,.cell 10 2,.cell 10 3],[(.cell 10 4,4)],[.cell 10 0,.cell 10 1,.cell 10 2,.cell 10 3,.cell 10 4],[],[]⟩|3=>some ⟨[.slot 11,.cell 2 0,.cell 2 1],[(.cell 2 2,5),(.cell 2 3,5)],[(2,4)],[],[.cell 2 0,.cell 2 1],[(.cell 2 2,5),(.cell 2 3,5)],[.cell 2 0,.cell 2 1,.cell 2 2,.cell 2 3],[],[]⟩|_=>none
def zlP(a0_2 v40:DV)(L43:List DV)(M44:List OC):Option PX:=
  za (pLen a0_2) fun v45=>
 za (pBin .lss (nthD L43 0) v45) fun v46=>
 ifB v46
 (za (pIdx 4 a0_2 (nthD L43 0)) fun x47=>
 za (pBin .add (I6 48) (nthD L43 0)) fun v48=>
 za (yg .u8 v48) fun v49=>
 za (pB2s (.lst 1 [[v49]])) fun v50=>
 za (pStr .add (.str ⟨#[67]⟩) v50) fun v51=>
 za (yg .i64 (atD x47 0)) fun v52=>
 za (pBin .rem v52 v40) fun v53=>
 za (yg .i64 (atD x47 1)) fun v54=>
 za (pBin .rem v54 v40) fun v55=>
 za (yg .i64 (atD x47 2)) fun v56=>
 za (pBin .rem v56 (I6 25)) fun v57=>
 za (pBin .eql v53 v55) fun v58=>
 ifB v58
 (za (pBin .eql v57 (I6 0)) fun v59=>
 ifB v59
 (gd (fits 48 (lenO (nthM M44 1)+1)) (
 za (pBin .add (nthD L43 0) (I6 1)) fun v60=>
 some (.normal,[v60,nthD L43 1,nthD L43 2],[nthM M44 0,some (zI (nthM M44 1)++[[v51,v53,v55,I6 12,atD x47 3]])])))
 (gd (fits 48 (lenO (nthM M44 1)+1)) (
 za (pBin .add (nthD L43 0) (I6 1)) fun v61=>
 some (.normal,[v61,nthD L43 1,nthD L43 2],[nthM M44 0,some (zI (nthM M44 1)++[[v51,v53,v55,v57,atD x47 3]])]))))
 (gd (fits 48 (lenO (nthM M44 1)+1)) (
 za (pBin .add (nthD L43 0) (I6 1)) fun v62=>
 some (.normal,[v62,nthD L43 1,nthD L43 2],[nthM M44 0,some (zI (nthM M44 1)++[[v51,v53,v55,v57,atD x47 3]])]))))
 (some (.exit 6,[nthD L43 1,nthD L43 2],[nthM M44 0,nthM M44 1]))
def zlQ(O:Orc)(x16 L12:List DV)(L29:List DV)(M30:List OC):Option PX:=
  za (pLen (atD x16 3)) fun v31=>
 za (pBin .lss (nthD L29 0) v31) fun v32=>
 ifB v32
 (za (pIdx 4 (atD x16 3) (nthD L29 0)) fun x33=>
 bA 4 (O 28 [S1 (nthD L12 2),SA [nthD L29 3,nthD L29 4],SA [atD x33 0,atD x33 1,atD x33 2,atD x33 3],S1 (nthD L29 0)]) fun g34=>
 gd (fits 56 (lenO (nthM M30 0)+1)) (
 za (pBin .add (nthD L29 0) (I6 1)) fun v35=>
 some (.normal,[v35,nthD L29 1,nthD L29 2,nthD L29 3,nthD L29 4],[some (zI (nthM M30 0)++[[atD g34 0,atD g34 1,atD g34 2,atD g34 3]])])))
 (some (.exit 4,[nthD L29 1,nthD L29 2,nthD L29 3,nthD L29 4],[nthM M30 0]))
def zlR(O:Orc)(a0_1:DV)(L12:List DV)(M13:List OC):Option PX:=
  za (pLen a0_1) fun v14=>
 za (pBin .lss (nthD L12 0) v14) fun v15=>
 ifB v15
 (za (pIdx 4 a0_1 (nthD L12 0)) fun x16=>
 za (pBin .rem (atD x16 0) (U8 12)) fun v17=>
 za (yg .i64 v17) fun v18=>
 za (pBin .add (I6 36) v18) fun v19=>
 za (pBin .add (I6 48) (nthD L12 0)) fun v20=>
 za (yg .u8 v20) fun v21=>
 za (pB2s (.lst 1 [[v21]])) fun v22=>
 za (pStr .add (.str ⟨#[68]⟩) v22) fun v23=>
 za (pBin .rem (atD x16 1) (U8 9)) fun v24=>
 za (yg .i64 v24) fun v25=>
 za (pBin .add v19 v25) fun v26=>
 y4 (zP (zlQ O x16 L12) [I6 0,v23,atD x16 2,v19,v26] [none])
 (fun i36 L27 M28=>bif Nat.beq i36 4 then
 (gd (fits 64 (lenO (nthM M13 0)+1)) (
 za (pBin .add (nthD L12 0) (I6 1)) fun v37=>
 some (.normal,[v37,nthD L12 1,nthD L12 2],[some (zI (nthM M13 0)++[[nthD L27 0,nthD L27 1,nthD L27 2,nthD L27 3,mkL 4 (nthM M28 0)]]),nthM M13 1])))
 else(bif Nat.beq i36 3 then
 (za (pBin .add (nthD L12 0) (I6 1)) fun v38=>
 some (.normal,[v38,nthD L12 1,nthD L12 2],[nthM M13 0,nthM M13 1]))
 else(some (.exit i36,[nthD L12 1,nthD L12 2],[nthM M13 0,nthM M13 1]))))
 (fun _L27 _M28=>none))
 (some (.exit 2,[nthD L12 1,nthD L12 2],[nthM M13 0,nthM M13 1]))
def F7_2(O:Orc)(a0_0:DV)(L2:List DV)(M3:List OC):Option PX:=
  za (pLen a0_0) fun v4=>
 za (pBin .lss (nthD L2 0) v4) fun v5=>
 ifB v5
 (za (pIdx 9 a0_0 (nthD L2 0)) fun x6=>
 bA 6 (O 27 [SA [atD x6 0,atD x6 1,atD x6 2,atD x6 3,atD x6 4,atD x6 5,atD x6 6,atD x6 7,atD x6 8],S1 (nthD L2 0)]) fun g7=>
 gd (fits 80 (lenO (nthM M3 0)+1)) (
 za (pBin .add (nthD L2 0) (I6 1)) fun v8=>
 some (.normal,[v8,nthD L2 1],[some (zI (nthM M3 0)++[[atD g7 0,atD g7 1,atD g7 2,atD g7 3,atD g7 4,atD g7 5]]),nthM M3 1,nthM M3 2])))
 (some (.exit 0,[nthD L2 1],[nthM M3 0,nthM M3 1,nthM M3 2]))
def P7(O:Orc)(a0_0 a0_1 a0_2:DV):Option DA:=
  y4 (zP (F7_2 O a0_0) [I6 0,.str ⟨#[79,114,103,97,110]⟩] [none,none,none])
 (fun i9 L0 M1=>bif Nat.beq i9 0 then
 (y4 (zP (zlR O a0_1) [I6 0,nthD L0 0,mkL 6 (nthM M1 0)] [nthM M1 1,nthM M1 2])
 (fun i39 L10 M11=>bif Nat.beq i39 2 then
 (za (pLen a0_1) fun v40=>
 y4 (zP (zlP a0_2 v40) [I6 0,nthD L10 0,nthD L10 1] [nthM M11 0,nthM M11 1])
 (fun i63 L41 M42=>bif Nat.beq i63 6 then
 (some (SA [nthD L41 0,nthD L41 1,mkL 5 (nthM M42 0),mkL 5 (nthM M42 1)]))
 else(none))
 (fun _L41 _M42=>none))
 else(none))
 (fun _L10 _M11=>none))
 else(none))
 (fun _L0 _M1=>none)
theorem p7(O:Orc)(a0_0 a0_1 a0_2:DV):pF O an7 7 [SA [a0_0,a0_1,a0_2]]=P7 O a0_0 a0_1 a0_2:=by kernel_rfl
def an8:Nat→Option LA:=fun i=>match i with|0=>some ⟨[.slot 6,.cell 3 1,.cell 3 2],[(.cell 3 0,1)],[(3,3)],[],[.cell 3 1,.cell 3 2],[(.cell 3 0,1)],[.cell 3 0,.cell 3 1,.cell 3 2],[],[]⟩|_=>none
def zlN(a0_2 a1_0 a1_1 a1_2 a1_3 a1_4:DV)(L16:List DV)(M17:List OC):Option PX:=
  za (pLen a0_2) fun v18=>
 za (pBin .lss (nthD L16 0) v18) fun v19=>
 ifB v19
 (za (pBin .rem (nthD L16 0) (I6 3)) fun v20=>
 za (jz 5 v20) fun n21=>
 za (yg .u64 (atD [a1_0,a1_1,a1_2,a1_3,a1_4] n21)) fun v22=>
 za (pIdx 5 a0_2 (nthD L16 0)) fun x23=>
 za (pLen (atD x23 4)) fun v24=>
 za (yg .u64 v24) fun v25=>
 za (yv true (U64 1) v25) fun v26=>
 za (pBin .sub v26 (U64 1)) fun v27=>
 za (pBin .and v22 v27) fun v28=>
 gd (fits 8 (lenO (nthM M17 0)+1)) (
 za (pBin .add (nthD L16 0) (I6 1)) fun v29=>
 some (.normal,[v29,nthD L16 1,nthD L16 2],[some (zI (nthM M17 0)++[[v28]])])))
 (some (.exit 0,[nthD L16 1,nthD L16 2],[nthM M17 0]))
def P8(_O:Orc)(_a0_0 _a0_1 a0_2 a0_3 a1_0 a1_1 a1_2 a1_3 a1_4:DV):Option DA:=
  za (jz 5 (I6 3)) fun n0=>
 za (yg .u64 (atD [a1_0,a1_1,a1_2,a1_3,a1_4] n0)) fun v1=>
 za (pLen a0_3) fun v2=>
 za (yg .u64 v2) fun v3=>
 za (yv true (U64 1) v3) fun v4=>
 za (pBin .sub v4 (U64 1)) fun v5=>
 za (pBin .and v1 v5) fun v6=>
 za (jz 5 (I6 4)) fun n7=>
 za (yg .u64 (atD [a1_0,a1_1,a1_2,a1_3,a1_4] n7)) fun v8=>
 za (pLen a0_2) fun v9=>
 za (yg .u64 v9) fun v10=>
 za (yv true (U64 1) v10) fun v11=>
 za (pBin .sub v11 (U64 1)) fun v12=>
 za (pBin .and v8 v12) fun v13=>
 y4 (zP (zlN a0_2 a1_0 a1_1 a1_2 a1_3 a1_4) [I6 0,v6,v13] [none])
 (fun i30 L14 M15=>bif Nat.beq i30 0 then
 (some (SA [mkL 1 (nthM M15 0),nthD L14 0,nthD L14 1]))
 else(none))
 (fun _L14 _M15=>none)
theorem p8(O:Orc)(a0_0 a0_1 a0_2 a0_3 a1_0 a1_1 a1_2 a1_3 a1_4:DV):pF O an8 8 [SA [a0_0,a0_1,a0_2,a0_3],SA [a1_0,a1_1,a1_2,a1_3,a1_4]]=P8 O a0_0 a0_1 a0_2 a0_3 a1_0 a1_1 a1_2 a1_3 a1_4:=by kernel_rfl
def P9(O:Orc)(a0_0 a0_1 a0_2 a0_3 a1_0 a1_1 a1_2:DV):Option DA:=
  b1s (O 29 [SA [a0_0,a0_1,a0_2,a0_3],S1 (.lst 3 [[a1_0,a1_1,a1_2]])]) fun v0=>
 za (pBin .neq v0 (I6 0)) fun v1=>
 ifB v1
 (some (.tup [.one .nils,.one v0]))
 (b1 (O 30 [SA [a0_0,a0_1,a0_2,a0_3],SA [a1_0,a1_1,a1_2]]) fun v2=>
 some (.tup [.one v2,.one (I6 0)]))
theorem p9(O:Orc)(a0_0 a0_1 a0_2 a0_3 a1_0 a1_1 a1_2:DV):pF O an0 9 [SA [a0_0,a0_1,a0_2,a0_3],SA [a1_0,a1_1,a1_2]]=P9 O a0_0 a0_1 a0_2 a0_3 a1_0 a1_1 a1_2:=by kernel_rfl
def P10(O:Orc)(a0_0 a0_1 a0_2 a0_3 a1_0 a1_1 a1_2 a2_0 a2_1 a2_2:DV):Option DA:=
  b1s (O 29 [SA [a0_0,a0_1,a0_2,a0_3],S1 (.lst 3 [[a1_0,a1_1,a1_2]])]) fun v0=>
 za (pBin .neq v0 (I6 0)) fun v1=>
 ifB v1
 (some (.tup [.agg [.nils,U64 0,U64 0],.one v0]))
 (b1 (O 30 [SA [a0_0,a0_1,a0_2,a0_3],SA [a1_0,a1_1,a1_2]]) fun v2=>
 b1 (O 14 [S1 v2,SA [a2_0,a2_1,a2_2]]) fun v3=>
 za (pNot v3) fun v4=>
 ifB v4
 (some (.tup [.agg [.nils,U64 0,U64 0],.one (I6 11)]))
 (bA 3 (O 31 [SA [a1_0,a1_1,a1_2],SA [a2_0,a2_1,a2_2]]) fun g5=>
 some (.tup [.agg [atD g5 0,atD g5 1,atD g5 2],.one (I6 0)])))
theorem p10(O:Orc)(a0_0 a0_1 a0_2 a0_3 a1_0 a1_1 a1_2 a2_0 a2_1 a2_2:DV):pF O an0 10 [SA [a0_0,a0_1,a0_2,a0_3],SA [a1_0,a1_1,a1_2],SA [a2_0,a2_1,a2_2]]=P10 O a0_0 a0_1 a0_2 a0_3 a1_0 a1_1 a1_2 a2_0 a2_1 a2_2:=by kernel_rfl
def an11:Nat→Option LA:=fun i=>match i with|0=>some ⟨[.slot 13],[(.cell 2 0,3)],[(2,1)],[],[],[(.cell 2 0,3)],[.cell 2 0],[],[]⟩|_=>none
def zsc:Nat→List PA→Nat→Nat→Option LA:=fun h _ n i=>match h,n,i with|32,5,0=>some ⟨[.slot 11],[(.cell 2 0,3)],[(2,1)],[],[],[(.cell 2 0,3)],[.cell 2 0],[],[]⟩|32,4,0=>some ⟨[.slot 11],[(.cell 2 0,3)],[(2,1)],[],[],[(.cell 2 0,3)],[.cell 2 0],[],[]⟩|_,_,_=>none
def zfk(v36 a1_2:DV)(L39:List DV)(M40:List OC):Option PX:=
  za (pBin .lss (nthD L39 0) v36) fun v41=>
 ifB v41
 (za (yg .u64 (nthD L39 0)) fun v42=>
 za (yv false a1_2 v42) fun v43=>
 za (pBin .and v43 (U64 1)) fun v44=>
 za (pBin .eql v44 (U64 1)) fun v45=>
 ifB v45
 (gd (fits 24 (lenO (nthM M40 0)+1)) (
 za (pBin .add (nthD L39 0) (I6 1)) fun v46=>
 some (.normal,[v46],[some (zI (nthM M40 0)++[[I6 3,I6 0,nthD L39 0]])])))
 (za (pBin .add (nthD L39 0) (I6 1)) fun v47=>
 some (.normal,[v47],[nthM M40 0])))
 (some (.exit 0,[],[nthM M40 0]))
def zfl(v23 a1_1:DV)(L26:List DV)(M27:List OC):Option PX:=
  za (pBin .lss (nthD L26 0) v23) fun v28=>
 ifB v28
 (za (yg .u64 (nthD L26 0)) fun v29=>
 za (yv false a1_1 v29) fun v30=>
 za (pBin .and v30 (U64 1)) fun v31=>
 za (pBin .eql v31 (U64 1)) fun v32=>
 ifB v32
 (gd (fits 24 (lenO (nthM M27 0)+1)) (
 za (pBin .add (nthD L26 0) (I6 1)) fun v33=>
 some (.normal,[v33],[some (zI (nthM M27 0)++[[I6 2,I6 0,nthD L26 0]])])))
 (za (pBin .add (nthD L26 0) (I6 1)) fun v34=>
 some (.normal,[v34],[nthM M27 0])))
 (some (.exit 0,[],[nthM M27 0]))
def zfm(v8:DV)(x7 L3:List DV)(L11:List DV)(M12:List OC):Option PX:=
  za (pBin .lss (nthD L11 0) v8) fun v13=>
 ifB v13
 (za (yg .u64 (nthD L11 0)) fun v14=>
 za (yv false (atD x7 0) v14) fun v15=>
 za (pBin .and v15 (U64 1)) fun v16=>
 za (pBin .eql v16 (U64 1)) fun v17=>
 ifB v17
 (gd (fits 24 (lenO (nthM M12 0)+1)) (
 za (pBin .add (nthD L11 0) (I6 1)) fun v18=>
 some (.normal,[v18],[some (zI (nthM M12 0)++[[I6 1,nthD L3 0,nthD L11 0]])])))
 (za (pBin .add (nthD L11 0) (I6 1)) fun v19=>
 some (.normal,[v19],[nthM M12 0])))
 (some (.exit 0,[],[nthM M12 0]))
def zl5(v0 a0_2 a1_0:DV)(L3:List DV)(M4:List OC):Option PX:=
  za (pBin .lss (nthD L3 0) v0) fun v5=>
 ifB v5
 (za (pIdx 5 a0_2 (nthD L3 0)) fun x6=>
 za (pIdx 1 a1_0 (nthD L3 0)) fun x7=>
 za (pLen (atD x6 4)) fun v8=>
 y4 (zP (zfm v8 x7 L3) [I6 0] [nthM M4 0])
 (fun i20 _L9 M10=>bif Nat.beq i20 0 then
 (za (pBin .add (nthD L3 0) (I6 1)) fun v21=>
 some (.normal,[v21],[nthM M10 0]))
 else(none))
 (fun _L9 _M10=>none))
 (some (.exit 0,[],[nthM M4 0]))
def P11(_O:Orc)(_a0_0 _a0_1 a0_2 a0_3 a1_0 a1_1 a1_2:DV):Option DA:=
  za (pLen a0_2) fun v0=>
 y4 (zP (zl5 v0 a0_2 a1_0) [I6 0] [none])
 (fun i22 _L1 M2=>bif Nat.beq i22 0 then
 (za (pLen a0_3) fun v23=>
 y4 (zP (zfl v23 a1_1) [I6 0] [nthM M2 0])
 (fun i35 _L24 M25=>bif Nat.beq i35 0 then
 (za (pLen a0_2) fun v36=>
 y4 (zP (zfk v36 a1_2) [I6 0] [nthM M25 0])
 (fun i48 _L37 M38=>bif Nat.beq i48 0 then
 (some (S1 (mkL 3 (nthM M38 0))))
 else(none))
 (fun _L37 _M38=>none))
 else(none))
 (fun _L24 _M25=>none))
 else(none))
 (fun _L1 _M2=>none)
theorem p11(O:Orc)(a0_0 a0_1 a0_2 a0_3 a1_0 a1_1 a1_2:DV):pFun prog O tabI (inl prog O tabI zsc redI 3) an11 11 [SA [a0_0,a0_1,a0_2,a0_3],SA [a1_0,a1_1,a1_2]]=P11 O a0_0 a0_1 a0_2 a0_3 a1_0 a1_1 a1_2:=by kernel_rfl
def an12:Nat→Option LA:=fun i=>match i with|0=>some ⟨[.slot 13],[],[],[],[],[],[.slot 4],[],[]⟩|_=>none
def zl4(v3 a0 a1:DV)(L6:List DV)(_M7:List OC):Option PX:=
  za (pBin .lss (nthD L6 0) v3) fun v8=>
 ifB v8
 (za (pIdx 3 a0 (nthD L6 0)) fun x9=>
 za (pIdx 3 a1 (nthD L6 0)) fun x10=>
 za (eqDs [1,1,1] [atD x9 0,atD x9 1,atD x9 2] [atD x10 0,atD x10 1,atD x10 2]) fun q11=>
 ifB (.bool (!q11))
 (some (.ret,[.bool false],[]))
 (za (pBin .add (nthD L6 0) (I6 1)) fun v12=>
 some (.normal,[v12],[])))
 (some (.exit 0,[],[]))
def P12(_O:Orc)(a0 a1:DV):Option DA:=
  za (pLen a0) fun v0=>
 za (pLen a1) fun v1=>
 za (pBin .neq v0 v1) fun v2=>
 ifB v2
 (some (S1 (.bool false)))
 (za (pLen a0) fun v3=>
 y4 (zP (zl4 v3 a0 a1) [I6 0] [])
 (fun i13 _L4 _M5=>bif Nat.beq i13 0 then
 (some (S1 (.bool true)))
 else(none))
 (fun L4 _M5=>some (S1 (nthD L4 0))))
theorem p12(O:Orc)(a0 a1:DV):pF O an12 12 [S1 a0,S1 a1]=P12 O a0 a1:=by kernel_rfl
def P13(O:Orc)(a0_0 a0_1 a0_2 a1_0 a1_1 a1_2:DV):Option DA:=
  b1 (O 26 [S1 a0_0,S1 a1_0]) fun v0=>
 ifB v0
 (za (pBin .eql a0_1 a1_1) fun v1=>
 ifB v1
 (za (pBin .eql a0_2 a1_2) fun v2=>
 some (S1 v2))
 (some (S1 (.bool false))))
 (some (S1 (.bool false)))
theorem p13(O:Orc)(a0_0 a0_1 a0_2 a1_0 a1_1 a1_2:DV):pF O an0 13 [SA [a0_0,a0_1,a0_2],SA [a1_0,a1_1,a1_2]]=P13 O a0_0 a0_1 a0_2 a1_0 a1_1 a1_2:=by kernel_rfl
def P14(O:Orc)(a0 a1_0 a1_1 a1_2:DV):Option DA:=
  b1 (O 33 [S1 a0,SA [a1_0,a1_1,a1_2]]) fun v0=>
 za (pBin .geq v0 (I6 0)) fun v1=>
 some (S1 v1)
theorem p14(O:Orc)(a0 a1_0 a1_1 a1_2:DV):pF O an0 14 [S1 a0,SA [a1_0,a1_1,a1_2]]=P14 O a0 a1_0 a1_1 a1_2:=by kernel_rfl
def P15(_O:Orc)(a0_0 a0_1 a0_2 a1_0 a1_1 a1_2:DV):Option DA:=
  za (za1 a0_0) fun q0=>
 ifB (.bool q0)
 (za (pBin .eql a1_0 (I6 1)) fun v1=>
 ifB v1
 (za (pIdx 1 .nils a1_1) fun x2=>
 za (yg .u64 a1_2) fun v3=>
 za (yv true (U64 1) v3) fun v4=>
 za (pBin .andNot (atD x2 0) v4) fun _v5=>
 za (pIdx 1 .nils a1_1) fun _x6=>
 none)
 (za (pBin .eql a1_0 (I6 2)) fun v7=>
 ifB v7
 (za (yg .u64 a1_2) fun v8=>
 za (yv true (U64 1) v8) fun v9=>
 za (pBin .andNot a0_1 v9) fun v10=>
 some (SA [.nils,v10,a0_2]))
 (za (yg .u64 a1_2) fun v11=>
 za (yv true (U64 1) v11) fun v12=>
 za (pBin .andNot a0_2 v12) fun v13=>
 some (SA [.nils,a0_1,v13]))))
 (za (uF 1 a0_0) fun e14=>
 gd (fits 8 (lenO (some [])+(e14:List (List DV)).length)) (
 za (pBin .eql a1_0 (I6 1)) fun v15=>
 ifB v15
 (za (jy (appO (some []) e14) a1_1) fun n16=>
 za (nthO (appO (some []) e14) n16) fun x17=>
 za (yg .u64 a1_2) fun v18=>
 za (yv true (U64 1) v18) fun v19=>
 za (pBin .andNot (atD x17 0) v19) fun v20=>
 za (jy (appO (some []) e14) a1_1) fun n21=>
 za (setO 1 (appO (some []) e14) n21 0 [v20]) fun w22=>
 some (SA [mkL 1 w22,a0_1,a0_2]))
 (za (pBin .eql a1_0 (I6 2)) fun v23=>
 ifB v23
 (za (yg .u64 a1_2) fun v24=>
 za (yv true (U64 1) v24) fun v25=>
 za (pBin .andNot a0_1 v25) fun v26=>
 some (SA [mkL 1 (appO (some []) e14),v26,a0_2]))
 (za (yg .u64 a1_2) fun v27=>
 za (yv true (U64 1) v27) fun v28=>
 za (pBin .andNot a0_2 v28) fun v29=>
 some (SA [mkL 1 (appO (some []) e14),a0_1,v29])))))
theorem p15(O:Orc)(a0_0 a0_1 a0_2 a1_0 a1_1 a1_2:DV):pF O an0 15 [SA [a0_0,a0_1,a0_2],SA [a1_0,a1_1,a1_2]]=P15 O a0_0 a0_1 a0_2 a1_0 a1_1 a1_2:=by kernel_rfl
def an16:Nat→Option LA:=fun i=>match i with|0=>some ⟨[.cell 0 0],[(.cell 0 1,6),(.cell 0 2,5),(.cell 0 3,5)],[(0,4)],[],[.cell 0 0],[(.cell 0 1,6),(.cell 0 2,5),(.cell 0 3,5)],[.cell 0 0,.cell 0 1,.cell 0 2,.cell 0 3],[],[]⟩|1=>some ⟨[.cell 0 0],[(.cell 0 1,6),(.cell 0 2,5),(.cell 0 3,5)],[(0,4)],[],[.cell 0 0],[(.cell 0 1,6),(.cell 0 2,5),(.cell 0 3,5)],[.cell 0 0,.cell 0 1,.cell 0 2,.cell 0 3],[],[]⟩|2=>some ⟨[.cell 9 0,.cell 9 1,.cell 9 2,.cell 9 3],[(.cell 9 4,4)],[(9,5)],[],[.cell 9 0,.cell 9 1,.cell 9 2,.cell 9 3],[(.cell 9 4,4)],[.cell 9 0,.cell 9 1,.cell 9 2,.cell 9 3,.cell 9 4],[],[]⟩|_=>none
def an17:Nat→Option LA:=fun i=>match i with|0=>some ⟨[.slot 27],[],[],[(1,1048576)],[],[],[.slot 2],[],[]⟩|1=>some ⟨[.slot 58],[(.slot 8,2)],[],[(2,1048576)],[],[(.slot 8,2)],[.slot 2],[],[]⟩|_=>none
def zfi(O:Orc)(v26 a0_2 a0_0 a0_1 a0_3:DV)(L29:List DV)(M30:List OC):Option PX:=
  za (pBin .lss (nthD L29 0) v26) fun v31=>
 ifB v31
 (za (pIdx 5 a0_2 (nthD L29 0)) fun x32=>
 b1 (O 35 [S1 (atD x32 0)]) fun v33=>
 za (pNot v33) fun v34=>
 ifB v34
 (some (.ret,[I6 8],[some (zI (nthM M30 1))]))
 (za (eqDS (.inl 2) (.one (atD x32 0)) (.one (atD x32 0))) fun _q35=>
 za (zdD (.inl 2) 1048576 (.one (atD x32 0)) (zI (nthM M30 1))) fun r36=>
 ifB (dsO (lkD (.one (.bool false)) r36))
 (za (pBin .neq (I6 9) (I6 0)) fun v37=>
 ifB v37
 (some (.ret,[I6 9],[some (zI (nthM M30 1))]))
 (b1 (O 38 [SA [a0_0,a0_1,a0_2,a0_3],SA [atD x32 0,atD x32 1,atD x32 2,atD x32 3,atD x32 4]]) fun v38=>
 za (pBin .neq v38 (I6 0)) fun v39=>
 ifB v39
 (some (.ret,[v38],[some (zI (nthM M30 1))]))
 (gd (fits 16 (lenO (nthM M30 0)+1)) (
 za (pBin .add (nthD L29 0) (I6 1)) fun v40=>
 some (.normal,[v40],[some (zI (nthM M30 0)++[[atD x32 2,atD x32 3]]),some (zI (nthM M30 1))])))))
 (za (eqDS (.inl 2) (.one (atD x32 0)) (.one (atD x32 0))) fun _q41=>
 za (putP (.inl 2) 1048576 (.one (atD x32 0)) [atD x32 0,.bool true] (zI (nthM M30 1))) fun e42=>
 za (pBin .neq (I6 0) (I6 0)) fun v43=>
 ifB v43
 (some (.ret,[I6 0],[some e42]))
 (b1 (O 38 [SA [a0_0,a0_1,a0_2,a0_3],SA [atD x32 0,atD x32 1,atD x32 2,atD x32 3,atD x32 4]]) fun v44=>
 za (pBin .neq v44 (I6 0)) fun v45=>
 ifB v45
 (some (.ret,[v44],[some e42]))
 (gd (fits 16 (lenO (nthM M30 0)+1)) (
 za (pBin .add (nthD L29 0) (I6 1)) fun v46=>
 some (.normal,[v46],[some (zI (nthM M30 0)++[[atD x32 2,atD x32 3]]),some e42])))))))
 (some (.exit 4,[],[nthM M30 0,some (zI (nthM M30 1))]))
def zl3(O:Orc)(v4 a0_1:DV)(L7:List DV)(M8:List OC):Option PX:=
  za (pBin .lss (nthD L7 0) v4) fun v9=>
 ifB v9
 (za (pIdx 6 a0_1 (nthD L7 0)) fun x10=>
 b1 (O 36 [SA [atD x10 0,atD x10 1,atD x10 2,atD x10 3,atD x10 4,atD x10 5]]) fun v11=>
 za (pBin .neq v11 (I6 0)) fun v12=>
 ifB v12
 (some (.ret,[v11],[some (zI (nthM M8 0))]))
 (za (eqDS (.inl 2) (.one (atD x10 0)) (.one (atD x10 0))) fun _q13=>
 za (zdD (.inl 2) 1048576 (.one (atD x10 0)) (zI (nthM M8 0))) fun r14=>
 ifB (dsO (lkD (.one (.bool false)) r14))
 (za (pBin .neq (I6 9) (I6 0)) fun v15=>
 ifB v15
 (some (.ret,[I6 9],[some (zI (nthM M8 0))]))
 (za (pBin .add (nthD L7 0) (I6 1)) fun v16=>
 some (.normal,[v16],[some (zI (nthM M8 0))])))
 (za (eqDS (.inl 2) (.one (atD x10 0)) (.one (atD x10 0))) fun _q17=>
 za (putP (.inl 2) 1048576 (.one (atD x10 0)) [atD x10 0,.bool true] (zI (nthM M8 0))) fun e18=>
 za (pBin .neq (I6 0) (I6 0)) fun v19=>
 ifB v19
 (some (.ret,[I6 0],[some e18]))
 (za (pBin .add (nthD L7 0) (I6 1)) fun v20=>
 some (.normal,[v20],[some e18])))))
 (some (.exit 1,[],[some (zI (nthM M8 0))]))
def P17(O:Orc)(a0_0 a0_1 a0_2 a0_3:DV):Option DA:=
  b1 (O 35 [S1 a0_0]) fun v0=>
 za (pNot v0) fun v1=>
 ifB v1
 (some (S1 (I6 8)))
 (za (pLen a0_1) fun v2=>
 za (pBin .gtr v2 (I6 60)) fun v3=>
 ifB v3
 (some (S1 (I6 4)))
 (za (pLen a0_1) fun v4=>
 y4 (zP (zl3 O v4 a0_1) [I6 0] [some []])
 (fun i21 _L5 _M6=>bif Nat.beq i21 1 then
 (za (pLen a0_2) fun v22=>
 za (pBin .eql v22 (I6 0)) fun v23=>
 ifB v23
 (some (S1 (I6 13)))
 (za (pLen a0_2) fun v24=>
 za (pBin .gtr v24 (I6 8)) fun v25=>
 ifB v25
 (some (S1 (I6 4)))
 (za (pLen a0_2) fun v26=>
 y4 (zP (zfi O v26 a0_2 a0_0 a0_1 a0_3) [I6 0] [none,some []])
 (fun i47 _L27 M28=>bif Nat.beq i47 4 then
 (b1s (O 39 [S1 (mkL 2 (nthM M28 0)),S1 a0_3]) fun v48=>
 some (S1 v48))
 else(none))
 (fun L27 _M28=>some (S1 (nthD L27 0))))))
 else(none))
 (fun L5 _M6=>some (S1 (nthD L5 0)))))
theorem p17(O:Orc)(a0_0 a0_1 a0_2 a0_3:DV):pF O an17 17 [SA [a0_0,a0_1,a0_2,a0_3]]=P17 O a0_0 a0_1 a0_2 a0_3:=by kernel_rfl
def an18:Nat→Option LA:=fun i=>match i with|0=>some ⟨[.slot 23],[],[],[],[],[],[.slot 4],[],[]⟩|_=>none
def zl2(v5 a0_2 a1_0:DV)(L8:List DV)(_M9:List OC):Option PX:=
  za (pBin .lss (nthD L8 0) v5) fun v10=>
 ifB v10
 (za (pIdx 5 a0_2 (nthD L8 0)) fun x11=>
 za (pIdx 1 a1_0 (nthD L8 0)) fun x12=>
 za (pLen (atD x11 4)) fun v13=>
 za (yv false (atD x12 0) v13) fun v14=>
 za (pBin .neq v14 (U64 0)) fun v15=>
 ifB v15
 (some (.ret,[I6 3],[]))
 (za (pBin .add (nthD L8 0) (I6 1)) fun v16=>
 some (.normal,[v16],[])))
 (some (.exit 0,[],[]))
def P18(O:Orc)(a0_0 a0_1 a0_2 a0_3 a1_0 a1_1 a1_2:DV):Option DA:=
  b1 (O 17 [SA [a0_0,a0_1,a0_2,a0_3]]) fun v0=>
 za (pBin .neq v0 (I6 0)) fun v1=>
 ifB v1
 (some (S1 v0))
 (za (pLen a1_0) fun v2=>
 za (pLen a0_2) fun v3=>
 za (pBin .neq v2 v3) fun v4=>
 ifB v4
 (some (S1 (I6 5)))
 (za (pLen a0_2) fun v5=>
 y4 (zP (zl2 v5 a0_2 a1_0) [I6 0] [])
 (fun i17 _L6 _M7=>bif Nat.beq i17 0 then
 (za (pLen a0_3) fun v18=>
 za (yv false a1_1 v18) fun v19=>
 za (pBin .neq v19 (U64 0)) fun v20=>
 ifB v20
 (some (S1 (I6 3)))
 (za (pLen a0_2) fun v21=>
 za (yv false a1_2 v21) fun v22=>
 za (pBin .neq v22 (U64 0)) fun v23=>
 ifB v23
 (some (S1 (I6 3)))
 (some (S1 (I6 0)))))
 else(none))
 (fun L6 _M7=>some (S1 (nthD L6 0)))))
theorem p18(O:Orc)(a0_0 a0_1 a0_2 a0_3 a1_0 a1_1 a1_2:DV):pF O an18 18 [SA [a0_0,a0_1,a0_2,a0_3],SA [a1_0,a1_1,a1_2]]=P18 O a0_0 a0_1 a0_2 a0_3 a1_0 a1_1 a1_2:=by kernel_rfl
def an26:Nat→Option LA:=fun i=>match i with|0=>some ⟨[.slot 13],[],[],[],[],[],[.slot 4],[],[]⟩|_=>none
def zl1(v3 a0 a1:DV)(L6:List DV)(_M7:List OC):Option PX:=
  za (pBin .lss (nthD L6 0) v3) fun v8=>
 ifB v8
 (za (pIdx 1 a0 (nthD L6 0)) fun x9=>
 za (pIdx 1 a1 (nthD L6 0)) fun x10=>
 za (pBin .neq (atD x9 0) (atD x10 0)) fun v11=>
 ifB v11
 (some (.ret,[.bool false],[]))
 (za (pBin .add (nthD L6 0) (I6 1)) fun v12=>
 some (.normal,[v12],[])))
 (some (.exit 0,[],[]))
def P26(_O:Orc)(a0 a1:DV):Option DA:=
  za (pLen a0) fun v0=>
 za (pLen a1) fun v1=>
 za (pBin .neq v0 v1) fun v2=>
 ifB v2
 (some (S1 (.bool false)))
 (za (pLen a0) fun v3=>
 y4 (zP (zl1 v3 a0 a1) [I6 0] [])
 (fun i13 _L4 _M5=>bif Nat.beq i13 0 then
 (some (S1 (.bool true)))
 else(none))
 (fun L4 _M5=>some (S1 (nthD L4 0))))
theorem p26(O:Orc)(a0 a1:DV):pF O an26 26 [S1 a0,S1 a1]=P26 O a0 a1:=by kernel_rfl
def an27:Nat→Option LA:=fun i=>match i with|0=>some ⟨[.slot 6,.cell 4 0,.cell 4 1,.cell 4 2,.cell 4 3,.cell 4 4],[(.cell 4 5,1)],[(4,6)],[],[.cell 4 0,.cell 4 1,.cell 4 2,.cell 4 3,.cell 4 4],[(.cell 4 5,1)],[.cell 4 0,.cell 4 1,.cell 4 2,.cell 4 3,.cell 4 4,.cell 4 5],[],[]⟩|_=>none
def zfh(a0_3 a0_4 a0_5 a0_6 a0_7 a0_8:DV)(L12:List DV)(M13:List OC):Option PX:=
  za (pBin .rem a0_3 (U8 25)) fun v14=>
 za (yg .i64 v14) fun v15=>
 za (pBin .add (I6 1) v15) fun v16=>
 za (pBin .lss (nthD L12 0) v16) fun v17=>
 ifB v17
 (za (pBin .rem (nthD L12 0) (I6 5)) fun v18=>
 za (jz 5 v18) fun n19=>
 za (yg .i64 (atD [a0_4,a0_5,a0_6,a0_7,a0_8] n19)) fun v20=>
 gd (fits 8 (lenO (nthM M13 0)+1)) (
 za (pBin .add (nthD L12 0) (I6 1)) fun v21=>
 some (.normal,[v21,nthD L12 1,nthD L12 2,nthD L12 3,nthD L12 4,nthD L12 5],[some (zI (nthM M13 0)++[[v20]])])))
 (some (.exit 0,[nthD L12 1,nthD L12 2,nthD L12 3,nthD L12 4,nthD L12 5],[nthM M13 0]))
def P27(O:Orc)(a0_0 a0_1 a0_2 a0_3 a0_4 a0_5 a0_6 a0_7 a0_8 a1:DV):Option DA:=
  za (pBin .rem a1 (I6 10)) fun v0=>
 za (pBin .add (I6 48) v0) fun v1=>
 za (yg .u8 v1) fun v2=>
 za (pB2s (.lst 1 [[v2]])) fun v3=>
 za (pStr .add (.str ⟨#[82]⟩) v3) fun v4=>
 za (pBin .rem a0_0 (U8 3)) fun v5=>
 za (jy (some [[.str ⟨#[79,112,101,110]⟩],[.str ⟨#[70,108,117,116,101]⟩],[.str ⟨#[82,101,101,100]⟩]]) v5) fun n6=>
 za (nthO (some [[.str ⟨#[79,112,101,110]⟩],[.str ⟨#[70,108,117,116,101]⟩],[.str ⟨#[82,101,101,100]⟩]]) n6) fun x7=>
 bA 2 (O 54 [S1 a0_1]) fun g8=>
 za (yg .i64 a0_2) fun v9=>
 y4 (zP (zfh a0_3 a0_4 a0_5 a0_6 a0_7 a0_8) [I6 0,v4,atD x7 0,atD g8 0,atD g8 1,v9] [none])
 (fun i22 L10 M11=>bif Nat.beq i22 0 then
 (some (SA [nthD L10 0,nthD L10 1,nthD L10 2,nthD L10 3,nthD L10 4,mkL 1 (nthM M11 0)]))
 else(none))
 (fun _L10 _M11=>none)
theorem p27(O:Orc)(a0_0 a0_1 a0_2 a0_3 a0_4 a0_5 a0_6 a0_7 a0_8 a1:DV):pF O an27 27 [SA [a0_0,a0_1,a0_2,a0_3,a0_4,a0_5,a0_6,a0_7,a0_8],S1 a1]=P27 O a0_0 a0_1 a0_2 a0_3 a0_4 a0_5 a0_6 a0_7 a0_8 a1:=by kernel_rfl
def P28(O:Orc)(a0 a1_0 a1_1 a2_0 a2_1 a2_2 a2_3 a3:DV):Option DA:=
  za (yg .i64 a2_0) fun v0=>
 za (pLen a0) fun v1=>
 za (pBin .rem v0 v1) fun v2=>
 za (pBin .add (I6 48) a3) fun v3=>
 za (yg .u8 v3) fun v4=>
 za (pB2s (.lst 1 [[v4]])) fun v5=>
 za (pStr .add (.str ⟨#[83]⟩) v5) fun v6=>
 bA 2 (O 55 [S1 a2_1]) fun g7=>
 za (pIdx 6 a0 v2) fun x8=>
 bT [none,none] (O 56 [SA [atD g7 0,atD g7 1],SA [atD x8 2,atD x8 3]]) fun t9=>
 za (yg .i64 a2_3) fun v10=>
 za (pBin .sub a1_1 a1_0) fun v11=>
 za (pBin .add v11 (I6 1)) fun v12=>
 za (pBin .rem v10 v12) fun v13=>
 za (pBin .add a1_0 v13) fun v14=>
 za (pBin .rem a2_2 (U8 6)) fun v15=>
 za (pBin .eql v15 (U8 2)) fun v16=>
 ifB v16
 (za (pBin .add (dsO (dsAt t9 0)) (I6 7)) fun v17=>
 some (SA [v6,atD g7 0,atD g7 1,.lst 3 [[a1_0,a1_1,.lst 2 [[v2,dsO (dsAt t9 0)],[v2,v17]]]]]))
 (za (pBin .eql v15 (U8 3)) fun v18=>
 ifB v18
 (za (pBin .sub (dsO (dsAt t9 0)) (I6 12)) fun v19=>
 za (pBin .rem a2_2 (U8 6)) fun v20=>
 za (pBin .eql v20 (U8 3)) fun v21=>
 ifB v21
 (za (pBin .add v2 (I6 1)) fun v22=>
 za (pLen a0) fun v23=>
 za (pBin .rem v22 v23) fun v24=>
 za (pIdx 6 a0 v24) fun x25=>
 bT [none,none] (O 56 [SA [atD g7 0,atD g7 1],SA [atD x25 2,atD x25 3]]) fun t26=>
 za (pBin .gtr v14 a1_0) fun v27=>
 ifB v27
 (za (pBin .sub v14 (I6 1)) fun v28=>
 gd (fits 40 1) (
 gd (fits 40 (lenO (some (zI none++[[a1_0,v28,.lst 2 [[v2,dsO (dsAt t9 0)]]]]))+1)) (
 some (SA [v6,atD g7 0,atD g7 1,.lst 3 (zI (some (zI none++[[a1_0,v28,.lst 2 [[v2,dsO (dsAt t9 0)]]]]))++[[v14,a1_1,.lst 2 [[v24,dsO (dsAt t26 0)]]]])]))))
 (gd (fits 40 1) (
 some (SA [v6,atD g7 0,atD g7 1,.lst 3 (zI none++[[v14,a1_1,.lst 2 [[v24,dsO (dsAt t26 0)]]]])]))))
 (za (pBin .gtr v14 a1_0) fun v29=>
 ifB v29
 (za (pBin .sub v14 (I6 1)) fun v30=>
 gd (fits 40 1) (
 gd (fits 40 (lenO (some (zI none++[[a1_0,v30,.lst 2 [[v2,dsO (dsAt t9 0)]]]]))+1)) (
 some (SA [v6,atD g7 0,atD g7 1,.lst 3 (zI (some (zI none++[[a1_0,v30,.lst 2 [[v2,dsO (dsAt t9 0)]]]]))++[[v14,a1_1,.lst 2 [[v2,v19]]]])]))))
 (gd (fits 40 1) (
 some (SA [v6,atD g7 0,atD g7 1,.lst 3 (zI none++[[v14,a1_1,.lst 2 [[v2,v19]]]])])))))
 (za (pBin .eql v15 (U8 4)) fun v31=>
 ifB v31
 (za (pBin .sub (dsO (dsAt t9 0)) (I6 12)) fun v32=>
 za (pBin .rem a2_2 (U8 6)) fun v33=>
 za (pBin .eql v33 (U8 3)) fun v34=>
 ifB v34
 (za (pBin .add v2 (I6 1)) fun v35=>
 za (pLen a0) fun v36=>
 za (pBin .rem v35 v36) fun v37=>
 za (pIdx 6 a0 v37) fun x38=>
 bT [none,none] (O 56 [SA [atD g7 0,atD g7 1],SA [atD x38 2,atD x38 3]]) fun t39=>
 za (pBin .gtr v14 a1_0) fun v40=>
 ifB v40
 (za (pBin .sub v14 (I6 1)) fun v41=>
 gd (fits 40 1) (
 gd (fits 40 (lenO (some (zI none++[[a1_0,v41,.lst 2 [[v2,dsO (dsAt t9 0)]]]]))+1)) (
 some (SA [v6,atD g7 0,atD g7 1,.lst 3 (zI (some (zI none++[[a1_0,v41,.lst 2 [[v2,dsO (dsAt t9 0)]]]]))++[[v14,a1_1,.lst 2 [[v37,dsO (dsAt t39 0)]]]])]))))
 (gd (fits 40 1) (
 some (SA [v6,atD g7 0,atD g7 1,.lst 3 (zI none++[[v14,a1_1,.lst 2 [[v37,dsO (dsAt t39 0)]]]])]))))
 (za (pBin .gtr v14 a1_0) fun v42=>
 ifB v42
 (za (pBin .sub v14 (I6 1)) fun v43=>
 gd (fits 40 1) (
 gd (fits 40 (lenO (some (zI none++[[a1_0,v43,.lst 2 [[v2,dsO (dsAt t9 0)]]]]))+1)) (
 some (SA [v6,atD g7 0,atD g7 1,.lst 3 (zI (some (zI none++[[a1_0,v43,.lst 2 [[v2,dsO (dsAt t9 0)]]]]))++[[v14,a1_1,.lst 2 [[v2,v32]]]])]))))
 (gd (fits 40 1) (
 some (SA [v6,atD g7 0,atD g7 1,.lst 3 (zI none++[[v14,a1_1,.lst 2 [[v2,v32]]]])])))))
 (za (pBin .eql v15 (U8 5)) fun v44=>
 ifB v44
 (some (SA [v6,atD g7 0,atD g7 1,.lst 3 [[v14,a1_1,.lst 2 [[v2,dsO (dsAt t9 0)]]]]]))
 (some (SA [v6,atD g7 0,atD g7 1,.lst 3 [[a1_0,a1_1,.lst 2 [[v2,dsO (dsAt t9 0)]]]]])))))
theorem p28(O:Orc)(a0 a1_0 a1_1 a2_0 a2_1 a2_2 a2_3 a3:DV):pF O an0 28 [S1 a0,SA [a1_0,a1_1],SA [a2_0,a2_1,a2_2,a2_3],S1 a3]=P28 O a0 a1_0 a1_1 a2_0 a2_1 a2_2 a2_3 a3:=by kernel_rfl
def an29:Nat→Option LA:=fun i=>match i with|0=>some ⟨[.slot 16],[],[],[],[],[],[.slot 4],[],[]⟩|_=>none
def zl0(O:Orc)(v2 a1 a0_0 a0_1 a0_2 a0_3:DV)(L5:List DV)(_M6:List OC):Option PX:=
  za (pBin .lss (nthD L5 0) v2) fun v7=>
 ifB v7
 (za (pIdx 3 a1 (nthD L5 0)) fun x8=>
 b1 (O 18 [SA [a0_0,a0_1,a0_2,a0_3],SA [atD x8 0,atD x8 1,atD x8 2]]) fun v9=>
 za (pBin .neq v9 (I6 0)) fun v10=>
 ifB v10
 (some (.ret,[v9],[]))
 (za (pBin .add (nthD L5 0) (I6 1)) fun v11=>
 some (.normal,[v11],[])))
 (some (.exit 0,[],[]))
def P29(O:Orc)(a0_0 a0_1 a0_2 a0_3 a1:DV):Option DA:=
  b1 (O 17 [SA [a0_0,a0_1,a0_2,a0_3]]) fun v0=>
 za (pBin .neq v0 (I6 0)) fun v1=>
 ifB v1
 (some (S1 v0))
 (za (pLen a1) fun v2=>
 y4 (zP (zl0 O v2 a1 a0_0 a0_1 a0_2 a0_3) [I6 0] [])
 (fun i12 _L3 _M4=>bif Nat.beq i12 0 then
 (some (S1 (I6 0)))
 else(none))
 (fun L3 _M4=>some (S1 (nthD L3 0))))
theorem p29(O:Orc)(a0_0 a0_1 a0_2 a0_3 a1:DV):pF O an29 29 [SA [a0_0,a0_1,a0_2,a0_3],S1 a1]=P29 O a0_0 a0_1 a0_2 a0_3 a1:=by kernel_rfl
def an30:Nat→Option LA:=fun i=>match i with|0=>some ⟨[.slot 14],[(.slot 5,3)],[],[],[],[(.slot 5,3)],[],[],[]⟩|1=>some ⟨[.slot 22],[(.slot 5,3)],[],[],[],[(.slot 5,3)],[],[],[]⟩|2=>some ⟨[.slot 45],[(.slot 5,3)],[],[],[],[(.slot 5,3)],[],[],[]⟩|3=>some ⟨[.slot 63],[(.slot 5,3)],[],[],[],[(.slot 5,3)],[],[],[]⟩|_=>none
def zfe(v35 a1_2:DV)(L38:List DV)(M39:List OC):Option PX:=
  za (pBin .lss (nthD L38 0) v35) fun v40=>
 ifB v40
 (za (yv false a1_2 (nthD L38 0)) fun v41=>
 za (pBin .and v41 (U64 1)) fun v42=>
 za (pBin .eql v42 (U64 1)) fun v43=>
 ifB v43
 (gd (fits 24 (lenO (nthM M39 0)+1)) (
 za (pBin .add (nthD L38 0) (I6 1)) fun v44=>
 some (.normal,[v44],[some (zI (nthM M39 0)++[[I6 3,I6 0,nthD L38 0]])])))
 (za (pBin .add (nthD L38 0) (I6 1)) fun v45=>
 some (.normal,[v45],[nthM M39 0])))
 (some (.exit 6,[],[nthM M39 0]))
def zff(v23 a1_1:DV)(L26:List DV)(M27:List OC):Option PX:=
  za (pBin .lss (nthD L26 0) v23) fun v28=>
 ifB v28
 (za (yv false a1_1 (nthD L26 0)) fun v29=>
 za (pBin .and v29 (U64 1)) fun v30=>
 za (pBin .eql v30 (U64 1)) fun v31=>
 ifB v31
 (gd (fits 24 (lenO (nthM M27 0)+1)) (
 za (pBin .add (nthD L26 0) (I6 1)) fun v32=>
 some (.normal,[v32],[some (zI (nthM M27 0)++[[I6 2,I6 0,nthD L26 0]])])))
 (za (pBin .add (nthD L26 0) (I6 1)) fun v33=>
 some (.normal,[v33],[nthM M27 0])))
 (some (.exit 4,[],[nthM M27 0]))
def zfg(v7 a1_0:DV)(L3:List DV)(L10:List DV)(M11:List OC):Option PX:=
  za (pBin .lss (nthD L10 0) v7) fun v12=>
 ifB v12
 (za (pIdx 1 a1_0 (nthD L3 0)) fun x13=>
 za (yv false (atD x13 0) (nthD L10 0)) fun v14=>
 za (pBin .and v14 (U64 1)) fun v15=>
 za (pBin .eql v15 (U64 1)) fun v16=>
 ifB v16
 (gd (fits 24 (lenO (nthM M11 0)+1)) (
 za (pBin .add (nthD L10 0) (I6 1)) fun v17=>
 some (.normal,[v17],[some (zI (nthM M11 0)++[[I6 1,nthD L3 0,nthD L10 0]])])))
 (za (pBin .add (nthD L10 0) (I6 1)) fun v18=>
 some (.normal,[v18],[nthM M11 0])))
 (some (.exit 2,[],[nthM M11 0]))
def zlZ(v0 a0_2 a1_0:DV)(L3:List DV)(M4:List OC):Option PX:=
  za (pBin .lss (nthD L3 0) v0) fun v5=>
 ifB v5
 (za (pIdx 5 a0_2 (nthD L3 0)) fun x6=>
 za (pLen (atD x6 4)) fun v7=>
 y4 (zP (zfg v7 a1_0 L3) [I6 0] [nthM M4 0])
 (fun i19 _L8 M9=>bif Nat.beq i19 2 then
 (za (pBin .add (nthD L3 0) (I6 1)) fun v20=>
 some (.normal,[v20],[nthM M9 0]))
 else(bif Nat.beq i19 1 then
 (za (pBin .add (nthD L3 0) (I6 1)) fun v21=>
 some (.normal,[v21],[nthM M9 0]))
 else(some (.exit i19,[],[nthM M9 0]))))
 (fun _L8 _M9=>none))
 (some (.exit 0,[],[nthM M4 0]))
def P30(_O:Orc)(_a0_0 _a0_1 a0_2 a0_3 a1_0 a1_1 a1_2:DV):Option DA:=
  za (pLen a0_2) fun v0=>
 y4 (zP (zlZ v0 a0_2 a1_0) [I6 0] [none])
 (fun i22 _L1 M2=>bif Nat.beq i22 0 then
 (za (pLen a0_3) fun v23=>
 y4 (zP (zff v23 a1_1) [I6 0] [nthM M2 0])
 (fun i34 _L24 M25=>bif Nat.beq i34 4 then
 (za (pLen a0_2) fun v35=>
 y4 (zP (zfe v35 a1_2) [I6 0] [nthM M25 0])
 (fun i46 _L36 M37=>bif Nat.beq i46 6 then
 (some (S1 (mkL 3 (nthM M37 0))))
 else(none))
 (fun _L36 _M37=>none))
 else(none))
 (fun _L24 _M25=>none))
 else(none))
 (fun _L1 _M2=>none)
theorem p30(O:Orc)(a0_0 a0_1 a0_2 a0_3 a1_0 a1_1 a1_2:DV):pF O an30 30 [SA [a0_0,a0_1,a0_2,a0_3],SA [a1_0,a1_1,a1_2]]=P30 O a0_0 a0_1 a0_2 a0_3 a1_0 a1_1 a1_2:=by kernel_rfl
def P31(_O:Orc)(a0_0 a0_1 a0_2 a1_0 a1_1 a1_2:DV):Option DA:=
  za (za1 a0_0) fun q0=>
 ifB (.bool q0)
 (za (pBin .eql a1_0 (I6 1)) fun v1=>
 ifB v1
 (za (pIdx 1 .nils a1_1) fun x2=>
 za (yv true (U64 1) a1_2) fun v3=>
 za (pBin .andNot (atD x2 0) v3) fun _v4=>
 za (pIdx 1 .nils a1_1) fun _x5=>
 none)
 (za (pBin .eql a1_0 (I6 2)) fun v6=>
 ifB v6
 (za (yv true (U64 1) a1_2) fun v7=>
 za (pBin .andNot a0_1 v7) fun v8=>
 some (SA [.nils,v8,a0_2]))
 (za (pBin .eql a1_0 (I6 3)) fun v9=>
 ifB v9
 (za (yv true (U64 1) a1_2) fun v10=>
 za (pBin .andNot a0_2 v10) fun v11=>
 some (SA [.nils,a0_1,v11]))
 (some (SA [.nils,a0_1,a0_2])))))
 (za (uF 1 a0_0) fun e12=>
 gd (fits 8 (lenO (some [])+(e12:List (List DV)).length)) (
 za (pBin .eql a1_0 (I6 1)) fun v13=>
 ifB v13
 (za (jy (appO (some []) e12) a1_1) fun n14=>
 za (nthO (appO (some []) e12) n14) fun x15=>
 za (yv true (U64 1) a1_2) fun v16=>
 za (pBin .andNot (atD x15 0) v16) fun v17=>
 za (jy (appO (some []) e12) a1_1) fun n18=>
 za (setO 1 (appO (some []) e12) n18 0 [v17]) fun w19=>
 some (SA [mkL 1 w19,a0_1,a0_2]))
 (za (pBin .eql a1_0 (I6 2)) fun v20=>
 ifB v20
 (za (yv true (U64 1) a1_2) fun v21=>
 za (pBin .andNot a0_1 v21) fun v22=>
 some (SA [mkL 1 (appO (some []) e12),v22,a0_2]))
 (za (pBin .eql a1_0 (I6 3)) fun v23=>
 ifB v23
 (za (yv true (U64 1) a1_2) fun v24=>
 za (pBin .andNot a0_2 v24) fun v25=>
 some (SA [mkL 1 (appO (some []) e12),a0_1,v25]))
 (some (SA [mkL 1 (appO (some []) e12),a0_1,a0_2]))))))
theorem p31(O:Orc)(a0_0 a0_1 a0_2 a1_0 a1_1 a1_2:DV):pF O an0 31 [SA [a0_0,a0_1,a0_2],SA [a1_0,a1_1,a1_2]]=P31 O a0_0 a0_1 a0_2 a1_0 a1_1 a1_2:=by kernel_rfl
def an33:Nat→Option LA:=fun i=>match i with|0=>some ⟨[.slot 8],[],[],[],[],[],[.slot 4],[],[]⟩|_=>none
def zlY(v0 a0 a1_0 a1_1 a1_2:DV)(L3:List DV)(_M4:List OC):Option PX:=
  za (pBin .lss (nthD L3 0) v0) fun v5=>
 ifB v5
 (za (pIdx 3 a0 (nthD L3 0)) fun x6=>
 za (eqDs [1,1,1] [a1_0,a1_1,a1_2] [atD x6 0,atD x6 1,atD x6 2]) fun q7=>
 ifB (.bool q7)
 (some (.ret,[nthD L3 0],[]))
 (za (pBin .add (nthD L3 0) (I6 1)) fun v8=>
 some (.normal,[v8],[])))
 (some (.exit 0,[],[]))
def P33(_O:Orc)(a0 a1_0 a1_1 a1_2:DV):Option DA:=
  za (pLen a0) fun v0=>
 y4 (zP (zlY v0 a0 a1_0 a1_1 a1_2) [I6 0] [])
 (fun i9 _L1 _M2=>bif Nat.beq i9 0 then
 (some (S1 (I6 (-1))))
 else(none))
 (fun L1 _M2=>some (S1 (nthD L1 0)))
theorem p33(O:Orc)(a0 a1_0 a1_1 a1_2:DV):pF O an33 33 [S1 a0,SA [a1_0,a1_1,a1_2]]=P33 O a0 a1_0 a1_1 a1_2:=by kernel_rfl
def an35:Nat→Option LA:=fun i=>match i with|0=>some ⟨[.slot 3],[],[],[],[],[],[.slot 2],[],[]⟩|_=>none
def zlX(O:Orc)(a0:DV)(L8:List DV)(_M9:List OC):Option PX:=
  za (ziv a0) fun v10=>
 za (pBin .lss (nthD L8 0) v10) fun v11=>
 ifB v11
 (za (qV a0 (nthD L8 0)) fun v12=>
 b1 (O 57 [S1 v12]) fun v13=>
 za (pNot v13) fun v14=>
 ifB v14
 (za (pBin .lss v12 (U8 48)) fun v15=>
 ifB v15
 (za (pBin .neq v12 (U8 95)) fun v16=>
 ifB v16
 (some (.ret,[.bool false],[]))
 (za (pBin .add (nthD L8 0) (I6 1)) fun v17=>
 some (.normal,[v17],[])))
 (za (pBin .gtr v12 (U8 57)) fun v18=>
 ifB v18
 (za (pBin .neq v12 (U8 95)) fun v19=>
 ifB v19
 (some (.ret,[.bool false],[]))
 (za (pBin .add (nthD L8 0) (I6 1)) fun v20=>
 some (.normal,[v20],[])))
 (za (pBin .add (nthD L8 0) (I6 1)) fun v21=>
 some (.normal,[v21],[]))))
 (za (pBin .add (nthD L8 0) (I6 1)) fun v22=>
 some (.normal,[v22],[])))
 (some (.exit 0,[],[]))
def P35(O:Orc)(a0:DV):Option DA:=
  za (pStr .eql a0 (.str ⟨#[]⟩)) fun v0=>
 ifB v0
 (some (S1 (.bool false)))
 (za (ziv a0) fun v1=>
 za (pBin .gtr v1 (I6 32)) fun v2=>
 ifB v2
 (some (S1 (.bool false)))
 (za (qV a0 (I6 0)) fun v3=>
 b1 (O 57 [S1 v3]) fun v4=>
 za (pNot v4) fun v5=>
 ifB v5
 (some (S1 (.bool false)))
 (y4 (zP (zlX O a0) [I6 1] [])
 (fun i23 _L6 _M7=>bif Nat.beq i23 0 then
 (some (S1 (.bool true)))
 else(none))
 (fun L6 _M7=>some (S1 (nthD L6 0))))))
theorem p35(O:Orc)(a0:DV):pF O an35 35 [S1 a0]=P35 O a0:=by kernel_rfl
def P36(O:Orc)(a0_0 a0_1 a0_2 a0_3 a0_4 a0_5:DV):Option DA:=
  b1 (O 35 [S1 a0_0]) fun v0=>
 za (pNot v0) fun v1=>
 ifB v1
 (some (S1 (I6 8)))
 (b1 (O 35 [S1 a0_1]) fun v2=>
 za (pNot v2) fun v3=>
 ifB v3
 (some (S1 (I6 8)))
 (b1 (O 58 [SA [a0_2,a0_3]]) fun v4=>
 za (pBin .neq v4 (I6 0)) fun v5=>
 ifB v5
 (some (S1 v4))
 (b1 (O 59 [S1 a0_4]) fun v6=>
 za (pNot v6) fun v7=>
 ifB v7
 (some (S1 (I6 3)))
 (za (pLen a0_5) fun v8=>
 za (pBin .eql v8 (I6 0)) fun v9=>
 ifB v9
 (some (S1 (I6 13)))
 (za (pLen a0_5) fun v10=>
 za (pBin .gtr v10 (I6 128)) fun v11=>
 ifB v11
 (some (S1 (I6 4)))
 (b1 (O 60 [S1 a0_5]) fun v12=>
 some (S1 v12)))))))
theorem p36(O:Orc)(a0_0 a0_1 a0_2 a0_3 a0_4 a0_5:DV):pF O an0 36 [SA [a0_0,a0_1,a0_2,a0_3,a0_4,a0_5]]=P36 O a0_0 a0_1 a0_2 a0_3 a0_4 a0_5:=by kernel_rfl
def an38:Nat→Option LA:=fun i=>match i with|0=>some ⟨[.slot 25],[],[],[(2,1048576)],[],[],[.slot 4],[],[]⟩|_=>none
def zlW(O:Orc)(v4 a1_4 a0_1 a1_2 a1_3:DV)(L7:List DV)(M8:List OC):Option PX:=
  za (pBin .lss (nthD L7 0) v4) fun v9=>
 ifB v9
 (za (pIdx 4 a1_4 (nthD L7 0)) fun x10=>
 b1 (O 62 [SA [a0_1,a1_2,a1_3],SA [atD x10 0,atD x10 1,atD x10 2,atD x10 3]]) fun v11=>
 za (pBin .neq v11 (I6 0)) fun v12=>
 ifB v12
 (some (.ret,[v11],[some (zI (nthM M8 0))]))
 (za (eqDS (.inl 2) (.one (atD x10 0)) (.one (atD x10 0))) fun _q13=>
 za (zdD (.inl 2) 1048576 (.one (atD x10 0)) (zI (nthM M8 0))) fun r14=>
 ifB (dsO (lkD (.one (.bool false)) r14))
 (za (pBin .neq (I6 9) (I6 0)) fun v15=>
 ifB v15
 (some (.ret,[I6 9],[some (zI (nthM M8 0))]))
 (za (pBin .add (nthD L7 0) (I6 1)) fun v16=>
 some (.normal,[v16],[some (zI (nthM M8 0))])))
 (za (eqDS (.inl 2) (.one (atD x10 0)) (.one (atD x10 0))) fun _q17=>
 za (putP (.inl 2) 1048576 (.one (atD x10 0)) [atD x10 0,.bool true] (zI (nthM M8 0))) fun e18=>
 za (pBin .neq (I6 0) (I6 0)) fun v19=>
 ifB v19
 (some (.ret,[I6 0],[some e18]))
 (za (pBin .add (nthD L7 0) (I6 1)) fun v20=>
 some (.normal,[v20],[some e18])))))
 (some (.exit 0,[],[some (zI (nthM M8 0))]))
def P38(O:Orc)(_a0_0 a0_1 _a0_2 _a0_3 _a1_0 _a1_1 a1_2 a1_3 a1_4:DV):Option DA:=
  b1 (O 61 [SA [a1_2,a1_3]]) fun v0=>
 za (pBin .neq v0 (I6 0)) fun v1=>
 ifB v1
 (some (S1 v0))
 (za (pLen a1_4) fun v2=>
 za (pBin .gtr v2 (I6 60)) fun v3=>
 ifB v3
 (some (S1 (I6 4)))
 (za (pLen a1_4) fun v4=>
 y4 (zP (zlW O v4 a1_4 a0_1 a1_2 a1_3) [I6 0] [some []])
 (fun i21 _L5 _M6=>bif Nat.beq i21 0 then
 (some (S1 (I6 0)))
 else(none))
 (fun L5 _M6=>some (S1 (nthD L5 0)))))
theorem p38(O:Orc)(a0_0 a0_1 a0_2 a0_3 a1_0 a1_1 a1_2 a1_3 a1_4:DV):pF O an38 38 [SA [a0_0,a0_1,a0_2,a0_3],SA [a1_0,a1_1,a1_2,a1_3,a1_4]]=P38 O a0_0 a0_1 a0_2 a0_3 a1_0 a1_1 a1_2 a1_3 a1_4:=by kernel_rfl
def an39:Nat→Option LA:=fun i=>match i with|0=>some ⟨[.slot 19],[],[],[],[],[],[.slot 4],[],[]⟩|1=>some ⟨[.slot 29],[],[],[],[],[],[.slot 4],[],[]⟩|_=>none
def zfd(O:Orc)(v15 a1 a0:DV)(L18:List DV)(_M19:List OC):Option PX:=
  za (pBin .lss (nthD L18 0) v15) fun v20=>
 ifB v20
 (za (pIdx 5 a1 (nthD L18 0)) fun x21=>
 b1 (O 35 [S1 (atD x21 0)]) fun v22=>
 za (pNot v22) fun v23=>
 ifB v23
 (some (.ret,[I6 8],[]))
 (za (uE 5 a1 none (some (nthD L18 0))) fun v24=>
 b1s (O 63 [S1 v24,S1 (.fn 64 [[atD x21 0,atD x21 1,atD x21 2,atD x21 3,atD x21 4]])]) fun v25=>
 ifB v25
 (some (.ret,[I6 9],[]))
 (za (pBin .lss (atD x21 1) (I6 0)) fun v26=>
 ifB v26
 (some (.ret,[I6 10],[]))
 (za (pLen a0) fun v27=>
 za (pBin .geq (atD x21 1) v27) fun v28=>
 ifB v28
 (some (.ret,[I6 10],[]))
 (za (pBin .lss (atD x21 2) (I6 0)) fun v29=>
 ifB v29
 (some (.ret,[I6 10],[]))
 (za (pLen a0) fun v30=>
 za (pBin .geq (atD x21 2) v30) fun v31=>
 ifB v31
 (some (.ret,[I6 10],[]))
 (za (pBin .lss (atD x21 3) (I6 (-127))) fun v32=>
 ifB v32
 (some (.ret,[I6 3],[]))
 (za (pBin .gtr (atD x21 3) (I6 127)) fun v33=>
 ifB v33
 (some (.ret,[I6 3],[]))
 (za (pBin .eql (atD x21 1) (atD x21 2)) fun v34=>
 ifB v34
 (za (pBin .eql (atD x21 3) (I6 0)) fun v35=>
 ifB v35
 (some (.ret,[I6 7],[]))
 (za (pBin .add (nthD L18 0) (I6 1)) fun v36=>
 some (.normal,[v36],[])))
 (za (pBin .add (nthD L18 0) (I6 1)) fun v37=>
 some (.normal,[v37],[])))))))))))
 (some (.exit 2,[],[]))
def zlV(O:Orc)(v4 a0:DV)(L7:List DV)(_M8:List OC):Option PX:=
  za (pBin .lss (nthD L7 0) v4) fun v9=>
 ifB v9
 (za (pIdx 2 a0 (nthD L7 0)) fun x10=>
 b1 (O 61 [SA [atD x10 0,atD x10 1]]) fun v11=>
 za (pBin .neq v11 (I6 0)) fun v12=>
 ifB v12
 (some (.ret,[I6 23],[]))
 (za (pBin .add (nthD L7 0) (I6 1)) fun v13=>
 some (.normal,[v13],[])))
 (some (.exit 0,[],[]))
def P39(O:Orc)(a0 a1:DV):Option DA:=
  za (pLen a0) fun v0=>
 za (pBin .gtr v0 (I6 8)) fun v1=>
 ifB v1
 (some (S1 (I6 4)))
 (za (pLen a1) fun v2=>
 za (pBin .gtr v2 (I6 40)) fun v3=>
 ifB v3
 (some (S1 (I6 4)))
 (za (pLen a0) fun v4=>
 y4 (zP (zlV O v4 a0) [I6 0] [])
 (fun i14 _L5 _M6=>bif Nat.beq i14 0 then
 (za (pLen a1) fun v15=>
 y4 (zP (zfd O v15 a1 a0) [I6 0] [])
 (fun i38 _L16 _M17=>bif Nat.beq i38 2 then
 (some (S1 (I6 0)))
 else(none))
 (fun L16 _M17=>some (S1 (nthD L16 0))))
 else(none))
 (fun L5 _M6=>some (S1 (nthD L5 0)))))
theorem p39(O:Orc)(a0 a1:DV):pF O an39 39 [S1 a0,S1 a1]=P39 O a0 a1:=by kernel_rfl
def P54(_O:Orc)(a0:DV):Option DA:=
  za (pBin .rem a0 (U8 16)) fun v0=>
 za (jy (some [[I6 8,I6 1],[I6 4,I6 1],[I6 16,I6 1],[I6 2,I6 1],[I6 8,I6 3],[I6 8,I6 5],[I6 4,I6 3],[I6 1,I6 1],[I6 32,I6 1],[I6 16,I6 3],[I6 16,I6 5],[I6 32,I6 3],[I6 8,I6 7],[I6 2,I6 3],[I6 1,I6 2],[I6 64,I6 1]]) v0) fun n1=>
 za (nthO (some [[I6 8,I6 1],[I6 4,I6 1],[I6 16,I6 1],[I6 2,I6 1],[I6 8,I6 3],[I6 8,I6 5],[I6 4,I6 3],[I6 1,I6 1],[I6 32,I6 1],[I6 16,I6 3],[I6 16,I6 5],[I6 32,I6 3],[I6 8,I6 7],[I6 2,I6 3],[I6 1,I6 2],[I6 64,I6 1]]) n1) fun x2=>
 some (SA [atD x2 0,atD x2 1])
theorem p54(O:Orc)(a0:DV):pF O an0 54 [S1 a0]=P54 O a0:=by kernel_rfl
def P55(_O:Orc)(a0:DV):Option DA:=
  za (pBin .rem a0 (U8 6)) fun v0=>
 za (jy (some [[I6 8,I6 1],[I6 4,I6 1],[I6 16,I6 1],[I6 8,I6 3],[I6 2,I6 1],[I6 8,I6 5]]) v0) fun n1=>
 za (nthO (some [[I6 8,I6 1],[I6 4,I6 1],[I6 16,I6 1],[I6 8,I6 3],[I6 2,I6 1],[I6 8,I6 5]]) n1) fun x2=>
 some (SA [atD x2 0,atD x2 1])
theorem p55(O:Orc)(a0:DV):pF O an0 55 [S1 a0]=P55 O a0:=by kernel_rfl
def P56(O:Orc)(a0_0 a0_1 a1_0 a1_1:DV):Option DA:=
  b1 (O 73 [SA [a0_0,a0_1],SA [a1_0,a1_1]]) fun v0=>
 za (pBin .neq v0 (I6 0)) fun v1=>
 ifB v1
 (some (.tup [.one (I6 0),.one v0]))
 (b1 (O 74 [SA [a0_0,a0_1],SA [a1_0,a1_1]]) fun v2=>
 some (.tup [.one v2,.one (I6 0)]))
theorem p56(O:Orc)(a0_0 a0_1 a1_0 a1_1:DV):pF O an0 56 [SA [a0_0,a0_1],SA [a1_0,a1_1]]=P56 O a0_0 a0_1 a1_0 a1_1:=by kernel_rfl
def P57(_O:Orc)(a0:DV):Option DA:=
  za (pBin .geq a0 (U8 65)) fun v0=>
 ifB v0
 (za (pBin .leq a0 (U8 90)) fun v1=>
 ifB v1
 (some (S1 (.bool true)))
 (za (pBin .geq a0 (U8 97)) fun v2=>
 ifB v2
 (za (pBin .leq a0 (U8 122)) fun v3=>
 some (S1 v3))
 (some (S1 (.bool false)))))
 (za (pBin .geq a0 (U8 97)) fun v4=>
 ifB v4
 (za (pBin .leq a0 (U8 122)) fun v5=>
 some (S1 v5))
 (some (S1 (.bool false))))
theorem p57(O:Orc)(a0:DV):pF O an0 57 [S1 a0]=P57 O a0:=by kernel_rfl
def P58(O:Orc)(a0_0 a0_1:DV):Option DA:=
  b1 (O 75 [SA [a0_0,a0_1]]) fun v0=>
 za (pBin .neq v0 (I6 0)) fun v1=>
 ifB v1
 (some (S1 (I6 2)))
 (za (pBin .leq a0_0 (I6 0)) fun v2=>
 ifB v2
 (some (S1 (I6 3)))
 (za (pBin .mul (I6 128) a0_1) fun v3=>
 za (pBin .gtr a0_0 v3) fun v4=>
 ifB v4
 (some (S1 (I6 3)))
 (za (pBin .gtr a0_1 (I6 128)) fun v5=>
 ifB v5
 (some (S1 (I6 4)))
 (some (S1 (I6 0))))))
theorem p58(O:Orc)(a0_0 a0_1:DV):pF O an0 58 [SA [a0_0,a0_1]]=P58 O a0_0 a0_1:=by kernel_rfl
def P59(_O:Orc)(a0:DV):Option DA:=
  za (pBin .geq a0 (I6 (-256))) fun v0=>
 ifB v0
 (za (pBin .leq a0 (I6 256)) fun v1=>
 some (S1 v1))
 (some (S1 (.bool false)))
theorem p59(O:Orc)(a0:DV):pF O an0 59 [S1 a0]=P59 O a0:=by kernel_rfl
def P60(O:Orc)(a0:DV):Option DA:=
  b1 (O 76 [S1 a0,S1 (.fn 77 [])]) fun v0=>
 ifB v0
 (some (S1 (I6 3)))
 (some (S1 (I6 0)))
theorem p60(O:Orc)(a0:DV):pF O an0 60 [S1 a0]=P60 O a0:=by kernel_rfl
def P61(_O:Orc)(a0_0 a0_1:DV):Option DA:=
  za (pBin .lss a0_0 (I6 0)) fun v0=>
 ifB v0
 (some (S1 (I6 3)))
 (za (pBin .gtr a0_1 (I6 127)) fun v1=>
 ifB v1
 (some (S1 (I6 3)))
 (za (pBin .gtr a0_0 a0_1) fun v2=>
 ifB v2
 (some (S1 (I6 23)))
 (some (S1 (I6 0)))))
theorem p61(O:Orc)(a0_0 a0_1:DV):pF O an0 61 [SA [a0_0,a0_1]]=P61 O a0_0 a0_1:=by kernel_rfl
def an62:Nat→Option LA:=fun i=>match i with|0=>some ⟨[.slot 38],[],[],[],[],[],[.slot 4],[],[]⟩|_=>none
def zfc(O:Orc)(v10 a1_3 a0_1 a0_2 a0_0:DV)(L13:List DV)(_M14:List OC):Option PX:=
  za (pBin .lss (nthD L13 0) v10) fun v15=>
 ifB v15
 (za (pIdx 3 a1_3 (nthD L13 0)) fun x16=>
 za (ul false (atD x16 0) [atD x16 1]) fun v17=>
 za (pBin .lss v17 a0_1) fun v18=>
 ifB v18
 (some (.ret,[I6 23],[]))
 (za (ul true (atD x16 0) [atD x16 1]) fun v19=>
 za (pBin .gtr v19 a0_2) fun v20=>
 ifB v20
 (some (.ret,[I6 23],[]))
 (za (pBin .gtr (atD x16 0) (atD x16 1)) fun v21=>
 ifB v21
 (some (.ret,[I6 6],[]))
 (za (pBin .gtr (nthD L13 0) (I6 0)) fun v22=>
 ifB v22
 (za (pBin .sub (nthD L13 0) (I6 1)) fun v23=>
 za (pIdx 3 a1_3 v23) fun x24=>
 za (pBin .leq (atD x16 0) (atD x24 1)) fun v25=>
 ifB v25
 (some (.ret,[I6 6],[]))
 (b1 (O 79 [SA [a0_0,a0_1,a0_2],S1 (atD x16 2)]) fun v26=>
 za (pBin .neq v26 (I6 0)) fun v27=>
 ifB v27
 (some (.ret,[v26],[]))
 (za (pBin .add (nthD L13 0) (I6 1)) fun v28=>
 some (.normal,[v28],[]))))
 (b1 (O 79 [SA [a0_0,a0_1,a0_2],S1 (atD x16 2)]) fun v29=>
 za (pBin .neq v29 (I6 0)) fun v30=>
 ifB v30
 (some (.ret,[v29],[]))
 (za (pBin .add (nthD L13 0) (I6 1)) fun v31=>
 some (.normal,[v31],[])))))))
 (some (.exit 1,[],[]))
def P62(O:Orc)(a0_0 a0_1 a0_2 a1_0 a1_1 a1_2 a1_3:DV):Option DA:=
  b1 (O 78 [SA [a0_0,a0_1,a0_2]]) fun v0=>
 za (pBin .neq v0 (I6 0)) fun v1=>
 ifB v1
 (some (S1 v0))
 (b1 (O 35 [S1 a1_0]) fun v2=>
 za (pNot v2) fun v3=>
 ifB v3
 (some (S1 (I6 8)))
 (b1 (O 58 [SA [a1_1,a1_2]]) fun v4=>
 za (pBin .neq v4 (I6 0)) fun v5=>
 ifB v5
 (some (S1 v4))
 (za (pLen a1_3) fun v6=>
 za (pBin .eql v6 (I6 0)) fun v7=>
 ifB v7
 (some (S1 (I6 13)))
 (za (pLen a1_3) fun v8=>
 za (pBin .gtr v8 (I6 12)) fun v9=>
 ifB v9
 (some (S1 (I6 4)))
 (za (pLen a1_3) fun v10=>
 y4 (zP (zfc O v10 a1_3 a0_1 a0_2 a0_0) [I6 0] [])
 (fun i32 _L11 _M12=>bif Nat.beq i32 1 then
 (some (S1 (I6 0)))
 else(none))
 (fun L11 _M12=>some (S1 (nthD L11 0))))))))
theorem p62(O:Orc)(a0_0 a0_1 a0_2 a1_0 a1_1 a1_2 a1_3:DV):pF O an62 62 [SA [a0_0,a0_1,a0_2],SA [a1_0,a1_1,a1_2,a1_3]]=P62 O a0_0 a0_1 a0_2 a1_0 a1_1 a1_2 a1_3:=by kernel_rfl
def P63(O:Orc)(a0 a1:DV):Option DA:=
  b1 (O 80 [S1 a0,S1 a1]) fun v0=>
 za (pBin .geq v0 (I6 0)) fun v1=>
 some (S1 v1)
theorem p63(O:Orc)(a0 a1:DV):pF O an0 63 [S1 a0,S1 a1]=P63 O a0 a1:=by kernel_rfl
def P64(_O:Orc)(a0_0 _a0_1 _a0_2 _a0_3 _a0_4 c0_0 _c0_1 _c0_2 _c0_3 _c0_4:DV):Option DA:=
  za (pStr .eql a0_0 c0_0) fun v0=>
 some (S1 v0)
theorem p64(O:Orc)(a0_0 a0_1 a0_2 a0_3 a0_4 c0_0 c0_1 c0_2 c0_3 c0_4:DV):pF O an0 64 [SA [a0_0,a0_1,a0_2,a0_3,a0_4],S1 (.fp [c0_0,c0_1,c0_2,c0_3,c0_4] 0)]=P64 O a0_0 a0_1 a0_2 a0_3 a0_4 c0_0 c0_1 c0_2 c0_3 c0_4:=by kernel_rfl
def P73(O:Orc)(a0_0 a0_1 a1_0 a1_1:DV):Option DA:=
  b1 (O 58 [SA [a0_0,a0_1]]) fun v0=>
 za (pBin .neq v0 (I6 0)) fun v1=>
 ifB v1
 (some (S1 v0))
 (b1 (O 58 [SA [a1_0,a1_1]]) fun v2=>
 some (S1 v2))
theorem p73(O:Orc)(a0_0 a0_1 a1_0 a1_1:DV):pF O an0 73 [SA [a0_0,a0_1],SA [a1_0,a1_1]]=P73 O a0_0 a0_1 a1_0 a1_1:=by kernel_rfl
def an74:Nat→Option LA:=fun i=>match i with|0=>some ⟨[.slot 5,.slot 7],[],[],[],[.slot 5,.slot 7],[],[],[],[]⟩|1=>some ⟨[.slot 6,.slot 7],[],[],[],[.slot 6,.slot 7],[],[],[],[]⟩|2=>some ⟨[.slot 12,.slot 7],[],[],[],[.slot 7],[],[],[],[]⟩|_=>none
def zfb(O:Orc)(t20:List DS)(L26:List DV)(_M27:List OC):Option PX:=
  b1 (O 94 [S1 (dsO (dsAt t20 0)),S1 (nthD L26 0)]) fun v28=>
 za (pBin .gtr v28 (I6 0)) fun v29=>
 ifB v29
 (za (pBin .add (nthD L26 1) (I6 1)) fun v30=>
 b1 (O 93 [S1 (nthD L26 0),S1 (.str ⟨#[52]⟩)]) fun v31=>
 some (.normal,[v31,v30],[]))
 (some (.exit 4,[nthD L26 1],[]))
def zcQ(L2:List DV)(L12:List DV)(_M13:List OC):Option PX:=
  za (pBin .mul (I6 2) (nthD L12 0)) fun v14=>
 za (pBin .geq (nthD L2 0) v14) fun v15=>
 ifB v15
 (za (pBin .mul (nthD L12 0) (I6 2)) fun v16=>
 za (pBin .add (nthD L12 1) (I6 12)) fun v17=>
 some (.normal,[v16,v17],[]))
 (some (.exit 2,[nthD L12 0,nthD L12 1],[]))
def zi6(v1:DV)(L4:List DV)(_M5:List OC):Option PX:=
  za (pBin .lss (nthD L4 0) v1) fun v6=>
 ifB v6
 (za (pBin .mul (nthD L4 0) (I6 2)) fun v7=>
 za (pBin .sub (nthD L4 1) (I6 12)) fun v8=>
 some (.normal,[v7,v8],[]))
 (some (.exit 0,[nthD L4 0,nthD L4 1],[]))
def P74(O:Orc)(a0_0 a0_1 a1_0 a1_1:DV):Option DA:=
  za (pBin .mul a1_0 a0_1) fun v0=>
 za (pBin .mul a1_1 a0_0) fun v1=>
 y4 (zP (zi6 v1) [v0,I6 0] [])
 (fun i9 L2 _M3=>bif Nat.beq i9 0 then
 (y4 (zP (zcQ L2) [v1,nthD L2 1] [])
 (fun i18 L10 _M11=>bif Nat.beq i18 2 then
 (b1 (O 92 [S1 (nthD L2 0)]) fun v19=>
 bT [none,none] (O 91 [S1 v19,S1 (I6 24)]) fun t20=>
 b1 (O 92 [S1 (nthD L10 0)]) fun v21=>
 bT [none,none] (O 91 [S1 v21,S1 (I6 24)]) fun t22=>
 b1 (O 93 [S1 (dsO (dsAt t22 0)),S1 (.str ⟨#[50]⟩)]) fun v23=>
 y4 (zP (zfb O t20) [v23,nthD L10 1] [])
 (fun i32 L24 _M25=>bif Nat.beq i32 4 then
 (some (S1 (nthD L24 0)))
 else(none))
 (fun _L24 _M25=>none))
 else(none))
 (fun _L10 _M11=>none))
 else(none))
 (fun _L2 _M3=>none)
theorem p74(O:Orc)(a0_0 a0_1 a1_0 a1_1:DV):pF O an74 74 [SA [a0_0,a0_1],SA [a1_0,a1_1]]=P74 O a0_0 a0_1 a1_0 a1_1:=by kernel_rfl
def P75(O:Orc)(a0_0 a0_1:DV):Option DA:=
  za (pBin .leq a0_1 (I6 0)) fun v0=>
 ifB v0
 (some (S1 (I6 2)))
 (za (pBin .gtr a0_1 (I6 1000000)) fun v1=>
 ifB v1
 (some (S1 (I6 2)))
 (za (pBin .lss a0_0 (I6 (-1000000))) fun v2=>
 ifB v2
 (some (S1 (I6 2)))
 (za (pBin .gtr a0_0 (I6 1000000)) fun v3=>
 ifB v3
 (some (S1 (I6 2)))
 (b1 (O 96 [S1 a0_0]) fun v4=>
 za (yg .u64 a0_1) fun v5=>
 b1 (O 95 [S1 v4,S1 v5]) fun v6=>
 za (pBin .neq v6 (U64 1)) fun v7=>
 ifB v7
 (some (S1 (I6 2)))
 (some (S1 (I6 0)))))))
theorem p75(O:Orc)(a0_0 a0_1:DV):pF O an0 75 [SA [a0_0,a0_1]]=P75 O a0_0 a0_1:=by kernel_rfl
def P76(O:Orc)(a0 a1:DV):Option DA:=
  b1 (O 97 [S1 a0,S1 a1]) fun v0=>
 za (pBin .geq v0 (I6 0)) fun v1=>
 some (S1 v1)
theorem p76(O:Orc)(a0 a1:DV):pF O an0 76 [S1 a0,S1 a1]=P76 O a0 a1:=by kernel_rfl
def P77(_O:Orc)(a0:DV):Option DA:=
  za (pBin .lss a0 (I6 0)) fun v0=>
 ifB v0
 (some (S1 (.bool true)))
 (za (pBin .gtr a0 (I6 1000000)) fun v1=>
 some (S1 v1))
theorem p77(O:Orc)(a0:DV):pF O an0 77 [S1 a0]=P77 O a0:=by kernel_rfl
def an78:Nat→Option LA:=fun i=>match i with|0=>some ⟨[.slot 13],[],[],[],[],[],[.slot 2],[],[]⟩|_=>none
def zlT(O:Orc)(v2 a0_0:DV)(L5:List DV)(_M6:List OC):Option PX:=
  za (pBin .lss (nthD L5 0) v2) fun v7=>
 ifB v7
 (za (pIdx 6 a0_0 (nthD L5 0)) fun x8=>
 b1 (O 36 [SA [atD x8 0,atD x8 1,atD x8 2,atD x8 3,atD x8 4,atD x8 5]]) fun v9=>
 za (pBin .neq v9 (I6 0)) fun v10=>
 ifB v10
 (some (.ret,[v9],[]))
 (za (pBin .add (nthD L5 0) (I6 1)) fun v11=>
 some (.normal,[v11],[])))
 (some (.exit 0,[],[]))
def P78(O:Orc)(a0_0 a0_1 a0_2:DV):Option DA:=
  za (pLen a0_0) fun v0=>
 za (pBin .gtr v0 (I6 60)) fun v1=>
 ifB v1
 (some (S1 (I6 4)))
 (za (pLen a0_0) fun v2=>
 y4 (zP (zlT O v2 a0_0) [I6 0] [])
 (fun i12 _L3 _M4=>bif Nat.beq i12 0 then
 (b1 (O 61 [SA [a0_1,a0_2]]) fun v13=>
 some (S1 v13))
 else(none))
 (fun L3 _M4=>some (S1 (nthD L3 0))))
theorem p78(O:Orc)(a0_0 a0_1 a0_2:DV):pF O an78 78 [SA [a0_0,a0_1,a0_2]]=P78 O a0_0 a0_1 a0_2:=by kernel_rfl
def an79:Nat→Option LA:=fun i=>match i with|0=>some ⟨[.slot 12],[],[],[],[],[],[.slot 4],[],[]⟩|_=>none
def zlS(O:Orc)(v2 a1 a0_0:DV)(L5:List DV)(_M6:List OC):Option PX:=
  za (pBin .lss (nthD L5 0) v2) fun v7=>
 ifB v7
 (za (pIdx 2 a1 (nthD L5 0)) fun x8=>
 za (pBin .lss (atD x8 0) (I6 0)) fun v9=>
 ifB v9
 (some (.ret,[I6 10],[]))
 (za (pLen a0_0) fun v10=>
 za (pBin .geq (atD x8 0) v10) fun v11=>
 ifB v11
 (some (.ret,[I6 10],[]))
 (za (pBin .lss (atD x8 1) (I6 (-127))) fun v12=>
 ifB v12
 (some (.ret,[I6 3],[]))
 (za (pBin .gtr (atD x8 1) (I6 127)) fun v13=>
 ifB v13
 (some (.ret,[I6 3],[]))
 (za (uE 2 a1 none (some (nthD L5 0))) fun v14=>
 b1 (O 98 [S1 v14,SA [atD x8 0,atD x8 1]]) fun v15=>
 ifB v15
 (some (.ret,[I6 9],[]))
 (za (pBin .add (nthD L5 0) (I6 1)) fun v16=>
 some (.normal,[v16],[])))))))
 (some (.exit 0,[],[]))
def P79(O:Orc)(a0_0 _a0_1 _a0_2 a1:DV):Option DA:=
  za (pLen a1) fun v0=>
 za (pBin .gtr v0 (I6 8)) fun v1=>
 ifB v1
 (some (S1 (I6 4)))
 (za (pLen a1) fun v2=>
 y4 (zP (zlS O v2 a1 a0_0) [I6 0] [])
 (fun i17 _L3 _M4=>bif Nat.beq i17 0 then
 (some (S1 (I6 0)))
 else(none))
 (fun L3 _M4=>some (S1 (nthD L3 0))))
theorem p79(O:Orc)(a0_0 a0_1 a0_2 a1:DV):pF O an79 79 [SA [a0_0,a0_1,a0_2],S1 a1]=P79 O a0_0 a0_1 a0_2 a1:=by kernel_rfl
def an80:Nat→Option LA:=fun i=>match i with|0=>some ⟨[.slot 8],[],[],[],[],[],[.slot 4],[],[]⟩|_=>none
def zlO(O:Orc)(v0 a0 a1:DV)(L3:List DV)(_M4:List OC):Option PX:=
  za (pBin .lss (nthD L3 0) v0) fun v5=>
 ifB v5
 (za (pIdx 5 a0 (nthD L3 0)) fun x6=>
 b1 (appF O a1 [SA [atD x6 0,atD x6 1,atD x6 2,atD x6 3,atD x6 4]]) fun v7=>
 ifB v7
 (some (.ret,[nthD L3 0],[]))
 (za (pBin .add (nthD L3 0) (I6 1)) fun v8=>
 some (.normal,[v8],[])))
 (some (.exit 0,[],[]))
def P80(O:Orc)(a0 a1:DV):Option DA:=
  za (pLen a0) fun v0=>
 y4 (zP (zlO O v0 a0 a1) [I6 0] [])
 (fun i9 _L1 _M2=>bif Nat.beq i9 0 then
 (some (S1 (I6 (-1))))
 else(none))
 (fun L1 _M2=>some (S1 (nthD L1 0)))
theorem p80(O:Orc)(a0 a1:DV):pF O an80 80 [S1 a0,S1 a1]=P80 O a0 a1:=by kernel_rfl
def an95:Nat→Option LA:=fun i=>match i with|0=>some ⟨[.slot 1,.slot 0],[],[],[],[.slot 0],[],[],[],[]⟩|_=>none
def znL(L2:List DV)(_M3:List OC):Option PX:=
  za (pBin .gtr (nthD L2 0) (U64 0)) fun v4=>
 ifB v4
 (za (pBin .rem (nthD L2 1) (nthD L2 0)) fun v5=>
 some (.normal,[v5,nthD L2 0],[]))
 (some (.exit 0,[nthD L2 1],[]))
def P95(_O:Orc)(a0 a1:DV):Option DA:=
  y4 (zP znL [a1,a0] [])
 (fun i6 L0 _M1=>bif Nat.beq i6 0 then
 (some (S1 (nthD L0 0)))
 else(none))
 (fun _L0 _M1=>none)
theorem p95(O:Orc)(a0 a1:DV):pF O an95 95 [S1 a0,S1 a1]=P95 O a0 a1:=by kernel_rfl
def P96(_O:Orc)(a0:DV):Option DA:=
  za (pBin .lss a0 (I6 0)) fun v0=>
 ifB v0
 (za (yg .u64 a0) fun v1=>
 za (pNeg v1) fun v2=>
 some (S1 v2))
 (za (yg .u64 a0) fun v3=>
 some (S1 v3))
theorem p96(O:Orc)(a0:DV):pF O an0 96 [S1 a0]=P96 O a0:=by kernel_rfl
def an97:Nat→Option LA:=fun i=>match i with|0=>some ⟨[.slot 8],[],[],[],[],[],[.slot 4],[],[]⟩|_=>none
def zlM(O:Orc)(v0 a0 a1:DV)(L3:List DV)(_M4:List OC):Option PX:=
  za (pBin .lss (nthD L3 0) v0) fun v5=>
 ifB v5
 (za (pIdx 1 a0 (nthD L3 0)) fun x6=>
 b1 (appF O a1 [S1 (atD x6 0)]) fun v7=>
 ifB v7
 (some (.ret,[nthD L3 0],[]))
 (za (pBin .add (nthD L3 0) (I6 1)) fun v8=>
 some (.normal,[v8],[])))
 (some (.exit 0,[],[]))
def P97(O:Orc)(a0 a1:DV):Option DA:=
  za (pLen a0) fun v0=>
 y4 (zP (zlM O v0 a0 a1) [I6 0] [])
 (fun i9 _L1 _M2=>bif Nat.beq i9 0 then
 (some (S1 (I6 (-1))))
 else(none))
 (fun L1 _M2=>some (S1 (nthD L1 0)))
theorem p97(O:Orc)(a0 a1:DV):pF O an97 97 [S1 a0,S1 a1]=P97 O a0 a1:=by kernel_rfl
def P98(O:Orc)(a0 a1_0 a1_1:DV):Option DA:=
  b1 (O 125 [S1 a0,SA [a1_0,a1_1]]) fun v0=>
 za (pBin .geq v0 (I6 0)) fun v1=>
 some (S1 v1)
theorem p98(O:Orc)(a0 a1_0 a1_1:DV):pF O an0 98 [S1 a0,SA [a1_0,a1_1]]=P98 O a0 a1_0 a1_1:=by kernel_rfl
def zsd:Nat→Option LA:=fun i=>match i with|0=>some ⟨[.slot 8],[],[],[],[],[],[.slot 4],[],[]⟩|_=>none
def zfj(v0 a0 a1_0 a1_1:DV)(L3:List DV)(_M4:List OC):Option PX:=
  za (pBin .lss (nthD L3 0) v0) fun v5=>
 ifB v5
 (za (pIdx 2 a0 (nthD L3 0)) fun x6=>
 za (eqDs [1,1] [a1_0,a1_1] [atD x6 0,atD x6 1]) fun q7=>
 ifB (.bool q7)
 (some (.ret,[nthD L3 0],[]))
 (za (pBin .add (nthD L3 0) (I6 1)) fun v8=>
 some (.normal,[v8],[])))
 (some (.exit 0,[],[]))
def P125(_O:Orc)(a0 a1_0 a1_1:DV):Option DA:=
  za (pLen a0) fun v0=>
 y4 (zP (zfj v0 a0 a1_0 a1_1) [I6 0] [])
 (fun i9 _L1 _M2=>bif Nat.beq i9 0 then
 (some (S1 (I6 (-1))))
 else(none))
 (fun L1 _M2=>some (S1 (nthD L1 0)))
theorem p125(O:Orc)(a0 a1_0 a1_1:DV):pF O zsd 125 [S1 a0,SA [a1_0,a1_1]]=P125 O a0 a1_0 a1_1:=by kernel_rfl
def anT(g:Nat):Nat→Option LA:=match g with
 |6=>an6
 |7=>an7
 |8=>an8
 |11=>an11
 |12=>an12
 |17=>an17
 |18=>an18
 |26=>an26
 |27=>an27
 |29=>an29
 |30=>an30
 |33=>an33
 |35=>an35
 |38=>an38
 |39=>an39
 |62=>an62
 |74=>an74
 |78=>an78
 |79=>an79
 |80=>an80
 |95=>an95
 |97=>an97
 |125=>zsd
 |_=>an0
def anIT(g:Nat):Nat→List PA→Nat→Nat→Option LA:=match g with
 |11=>zsc
 |_=>anI0
end Go.Proofs.Tryz.Kn
end
section
namespace Go.Proofs.Tryz.Kn
open Go Go.CE Go.PE
theorem zqY{sums:List CE.Sum}:znI tabI redI (fun n=>yu (z5 prog) (cFs (xX prog)) sums n):=zmV
end Go.Proofs.Tryz.Kn
end
noncomputable section
namespace Go.Proofs.Tryz.Kn
open Go Go.CE Go.PE
def zpO:List CE.Sum:=[kSum29]
theorem znh:∀s∈zpO,jf Tryz.prog s:=by
 intro s hs;simp only[zpO,List.mem_cons,List.not_mem_nil,or_false]at hs;rcases hs with rfl
 ·exact zkT
def bSums:List CE.Sum:=zpO++shSums
theorem znF:∀s∈bSums,jf Tryz.prog s:=znC znh zjx
def bIds:List Nat:=[5,91,92,93,94]
theorem zlF:bSums.all (fun s=>bIds.any (Nat.beq s.g))=true:=by kernel_rfl
theorem zbN{g:Nat}(h:bIds.any (Nat.beq g)=false):∀s∈bSums,Nat.beq g s.g=false:=by
 intro s hs;have h1:=List.all_eq_true.1 zlF s hs;cases hb:Nat.beq g s.g with
 |false=>rfl
 |true=>
  rw[←Lz1 hb,h]at h1;cases h1
theorem zi4{g:Nat}(h:bIds.any (Nat.beq g)=false):bSums.all (fun s=>!Nat.beq g s.g)=true:=
 List.all_eq_true.2 fun s hs=>by rw[zbN h s hs];rfl
def B:Orc:=sumB bIds bSums
theorem zsg{g:Nat}(h:bIds.any (Nat.beq g)=false)(args:List DA):B g args=none:=by
 unfold B sumB;rw[h];rfl
def D(k:Nat):Orc:=deep prog bSums B anT tabI anIT redI 3 k
theorem dF{k g:Nat}{args:List DA}{x:Option DA}(h:bIds.any (Nat.beq g)=false)(e:pFun prog (D k) tabI (inl prog (D k) tabI (anIT g) redI 3) (anT g) g args=x):D (k+1) g args=x:=(zlp (zsg h _) (zi4 h)).trans e
theorem zmq:∀g,tabI g=true→∀s∈bSums,Nat.beq g s.g=false:=by
 intro g hg;refine zbN ?_;unfold tabI at hg;split at hg
 ·rfl
 ·rfl
 ·rfl
 ·cases hg
theorem D_ok(k:Nat):jB (D k) (fun n=>yu (z5 prog) (cFs (xX prog)) bSums n):=zgj zqY zmq zoF k
theorem D5(k:Nat):D k 5 []=some (S1 (.bool true)):=zeX (by kernel_rfl)
theorem D3(k:Nat)(a0_0 a0_1 a0_2 a1_0 a1_1 a1_2 a1_3 a1_4 a2_0 a2_1 a2_2:DV):D (k+1) 3 [SA [a0_0,a0_1,a0_2],SA [a1_0,a1_1,a1_2,a1_3,a1_4],SA [a2_0,a2_1,a2_2]]=P3 (D k) a0_0 a0_1 a0_2 a1_0 a1_1 a1_2 a1_3 a1_4 a2_0 a2_1 a2_2:=dF rfl (p3 ..)
theorem D6(k:Nat)(a0_0 a0_1 a0_2:DV):D (k+1) 6 [SA [a0_0,a0_1,a0_2]]=P6 (D k) a0_0 a0_1 a0_2:=dF rfl (p6 ..)
theorem D7(k:Nat)(a0_0 a0_1 a0_2:DV):D (k+1) 7 [SA [a0_0,a0_1,a0_2]]=P7 (D k) a0_0 a0_1 a0_2:=dF rfl (p7 ..)
theorem D8(k:Nat)(a0_0 a0_1 a0_2 a0_3 a1_0 a1_1 a1_2 a1_3 a1_4:DV):D (k+1) 8 [SA [a0_0,a0_1,a0_2,a0_3],SA [a1_0,a1_1,a1_2,a1_3,a1_4]]=P8 (D k) a0_0 a0_1 a0_2 a0_3 a1_0 a1_1 a1_2 a1_3 a1_4:=dF rfl (p8 ..)
theorem D9(k:Nat)(a0_0 a0_1 a0_2 a0_3 a1_0 a1_1 a1_2:DV):D (k+1) 9 [SA [a0_0,a0_1,a0_2,a0_3],SA [a1_0,a1_1,a1_2]]=P9 (D k) a0_0 a0_1 a0_2 a0_3 a1_0 a1_1 a1_2:=dF rfl (p9 ..)
theorem D10(k:Nat)(a0_0 a0_1 a0_2 a0_3 a1_0 a1_1 a1_2 a2_0 a2_1 a2_2:DV):D (k+1) 10 [SA [a0_0,a0_1,a0_2,a0_3],SA [a1_0,a1_1,a1_2],SA [a2_0,a2_1,a2_2]]=P10 (D k) a0_0 a0_1 a0_2 a0_3 a1_0 a1_1 a1_2 a2_0 a2_1 a2_2:=dF rfl (p10 ..)
theorem D11(k:Nat)(a0_0 a0_1 a0_2 a0_3 a1_0 a1_1 a1_2:DV):D (k+1) 11 [SA [a0_0,a0_1,a0_2,a0_3],SA [a1_0,a1_1,a1_2]]=P11 (D k) a0_0 a0_1 a0_2 a0_3 a1_0 a1_1 a1_2:=dF rfl (p11 ..)
theorem D12(k:Nat)(a0 a1:DV):D (k+1) 12 [S1 a0,S1 a1]=P12 (D k) a0 a1:=dF rfl (p12 ..)
theorem D13(k:Nat)(a0_0 a0_1 a0_2 a1_0 a1_1 a1_2:DV):D (k+1) 13 [SA [a0_0,a0_1,a0_2],SA [a1_0,a1_1,a1_2]]=P13 (D k) a0_0 a0_1 a0_2 a1_0 a1_1 a1_2:=dF rfl (p13 ..)
theorem D14(k:Nat)(a0 a1_0 a1_1 a1_2:DV):D (k+1) 14 [S1 a0,SA [a1_0,a1_1,a1_2]]=P14 (D k) a0 a1_0 a1_1 a1_2:=dF rfl (p14 ..)
theorem D15(k:Nat)(a0_0 a0_1 a0_2 a1_0 a1_1 a1_2:DV):D (k+1) 15 [SA [a0_0,a0_1,a0_2],SA [a1_0,a1_1,a1_2]]=P15 (D k) a0_0 a0_1 a0_2 a1_0 a1_1 a1_2:=dF rfl (p15 ..)
theorem D17(k:Nat)(a0_0 a0_1 a0_2 a0_3:DV):D (k+1) 17 [SA [a0_0,a0_1,a0_2,a0_3]]=P17 (D k) a0_0 a0_1 a0_2 a0_3:=dF rfl (p17 ..)
theorem D18(k:Nat)(a0_0 a0_1 a0_2 a0_3 a1_0 a1_1 a1_2:DV):D (k+1) 18 [SA [a0_0,a0_1,a0_2,a0_3],SA [a1_0,a1_1,a1_2]]=P18 (D k) a0_0 a0_1 a0_2 a0_3 a1_0 a1_1 a1_2:=dF rfl (p18 ..)
theorem D26(k:Nat)(a0 a1:DV):D (k+1) 26 [S1 a0,S1 a1]=P26 (D k) a0 a1:=dF rfl (p26 ..)
theorem D27(k:Nat)(a0_0 a0_1 a0_2 a0_3 a0_4 a0_5 a0_6 a0_7 a0_8 a1:DV):D (k+1) 27 [SA [a0_0,a0_1,a0_2,a0_3,a0_4,a0_5,a0_6,a0_7,a0_8],S1 a1]=P27 (D k) a0_0 a0_1 a0_2 a0_3 a0_4 a0_5 a0_6 a0_7 a0_8 a1:=dF rfl (p27 ..)
theorem D28(k:Nat)(a0 a1_0 a1_1 a2_0 a2_1 a2_2 a2_3 a3:DV):D (k+1) 28 [S1 a0,SA [a1_0,a1_1],SA [a2_0,a2_1,a2_2,a2_3],S1 a3]=P28 (D k) a0 a1_0 a1_1 a2_0 a2_1 a2_2 a2_3 a3:=dF rfl (p28 ..)
theorem D29(k:Nat)(a0_0 a0_1 a0_2 a0_3 a1:DV):D (k+1) 29 [SA [a0_0,a0_1,a0_2,a0_3],S1 a1]=P29 (D k) a0_0 a0_1 a0_2 a0_3 a1:=dF rfl (p29 ..)
theorem D30(k:Nat)(a0_0 a0_1 a0_2 a0_3 a1_0 a1_1 a1_2:DV):D (k+1) 30 [SA [a0_0,a0_1,a0_2,a0_3],SA [a1_0,a1_1,a1_2]]=P30 (D k) a0_0 a0_1 a0_2 a0_3 a1_0 a1_1 a1_2:=dF rfl (p30 ..)
theorem D31(k:Nat)(a0_0 a0_1 a0_2 a1_0 a1_1 a1_2:DV):D (k+1) 31 [SA [a0_0,a0_1,a0_2],SA [a1_0,a1_1,a1_2]]=P31 (D k) a0_0 a0_1 a0_2 a1_0 a1_1 a1_2:=dF rfl (p31 ..)
theorem D33(k:Nat)(a0 a1_0 a1_1 a1_2:DV):D (k+1) 33 [S1 a0,SA [a1_0,a1_1,a1_2]]=P33 (D k) a0 a1_0 a1_1 a1_2:=dF rfl (p33 ..)
theorem D35(k:Nat)(a0:DV):D (k+1) 35 [S1 a0]=P35 (D k) a0:=dF rfl (p35 ..)
theorem D36(k:Nat)(a0_0 a0_1 a0_2 a0_3 a0_4 a0_5:DV):D (k+1) 36 [SA [a0_0,a0_1,a0_2,a0_3,a0_4,a0_5]]=P36 (D k) a0_0 a0_1 a0_2 a0_3 a0_4 a0_5:=dF rfl (p36 ..)
theorem D38(k:Nat)(a0_0 a0_1 a0_2 a0_3 a1_0 a1_1 a1_2 a1_3 a1_4:DV):D (k+1) 38 [SA [a0_0,a0_1,a0_2,a0_3],SA [a1_0,a1_1,a1_2,a1_3,a1_4]]=P38 (D k) a0_0 a0_1 a0_2 a0_3 a1_0 a1_1 a1_2 a1_3 a1_4:=dF rfl (p38 ..)
theorem D39(k:Nat)(a0 a1:DV):D (k+1) 39 [S1 a0,S1 a1]=P39 (D k) a0 a1:=dF rfl (p39 ..)
theorem D54(k:Nat)(a0:DV):D (k+1) 54 [S1 a0]=P54 (D k) a0:=dF rfl (p54 ..)
theorem D55(k:Nat)(a0:DV):D (k+1) 55 [S1 a0]=P55 (D k) a0:=dF rfl (p55 ..)
theorem D56(k:Nat)(a0_0 a0_1 a1_0 a1_1:DV):D (k+1) 56 [SA [a0_0,a0_1],SA [a1_0,a1_1]]=P56 (D k) a0_0 a0_1 a1_0 a1_1:=dF rfl (p56 ..)
theorem D57(k:Nat)(a0:DV):D (k+1) 57 [S1 a0]=P57 (D k) a0:=dF rfl (p57 ..)
theorem D58(k:Nat)(a0_0 a0_1:DV):D (k+1) 58 [SA [a0_0,a0_1]]=P58 (D k) a0_0 a0_1:=dF rfl (p58 ..)
theorem D59(k:Nat)(a0:DV):D (k+1) 59 [S1 a0]=P59 (D k) a0:=dF rfl (p59 ..)
theorem D60(k:Nat)(a0:DV):D (k+1) 60 [S1 a0]=P60 (D k) a0:=dF rfl (p60 ..)
theorem D61(k:Nat)(a0_0 a0_1:DV):D (k+1) 61 [SA [a0_0,a0_1]]=P61 (D k) a0_0 a0_1:=dF rfl (p61 ..)
theorem D62(k:Nat)(a0_0 a0_1 a0_2 a1_0 a1_1 a1_2 a1_3:DV):D (k+1) 62 [SA [a0_0,a0_1,a0_2],SA [a1_0,a1_1,a1_2,a1_3]]=P62 (D k) a0_0 a0_1 a0_2 a1_0 a1_1 a1_2 a1_3:=dF rfl (p62 ..)
theorem D63(k:Nat)(a0 a1:DV):D (k+1) 63 [S1 a0,S1 a1]=P63 (D k) a0 a1:=dF rfl (p63 ..)
theorem D64(k:Nat)(a0_0 a0_1 a0_2 a0_3 a0_4 c0_0 c0_1 c0_2 c0_3 c0_4:DV):D (k+1) 64 [SA [a0_0,a0_1,a0_2,a0_3,a0_4],S1 (.fp [c0_0,c0_1,c0_2,c0_3,c0_4] 0)]=P64 (D k) a0_0 a0_1 a0_2 a0_3 a0_4 c0_0 c0_1 c0_2 c0_3 c0_4:=dF rfl (p64 ..)
theorem D73(k:Nat)(a0_0 a0_1 a1_0 a1_1:DV):D (k+1) 73 [SA [a0_0,a0_1],SA [a1_0,a1_1]]=P73 (D k) a0_0 a0_1 a1_0 a1_1:=dF rfl (p73 ..)
theorem D74(k:Nat)(a0_0 a0_1 a1_0 a1_1:DV):D (k+1) 74 [SA [a0_0,a0_1],SA [a1_0,a1_1]]=P74 (D k) a0_0 a0_1 a1_0 a1_1:=dF rfl (p74 ..)
theorem D75(k:Nat)(a0_0 a0_1:DV):D (k+1) 75 [SA [a0_0,a0_1]]=P75 (D k) a0_0 a0_1:=dF rfl (p75 ..)
theorem D76(k:Nat)(a0 a1:DV):D (k+1) 76 [S1 a0,S1 a1]=P76 (D k) a0 a1:=dF rfl (p76 ..)
theorem D77(k:Nat)(a0:DV):D (k+1) 77 [S1 a0]=P77 (D k) a0:=dF rfl (p77 ..)
theorem D78(k:Nat)(a0_0 a0_1 a0_2:DV):D (k+1) 78 [SA [a0_0,a0_1,a0_2]]=P78 (D k) a0_0 a0_1 a0_2:=dF rfl (p78 ..)
theorem D79(k:Nat)(a0_0 a0_1 a0_2 a1:DV):D (k+1) 79 [SA [a0_0,a0_1,a0_2],S1 a1]=P79 (D k) a0_0 a0_1 a0_2 a1:=dF rfl (p79 ..)
theorem D80(k:Nat)(a0 a1:DV):D (k+1) 80 [S1 a0,S1 a1]=P80 (D k) a0 a1:=dF rfl (p80 ..)
theorem D95(k:Nat)(a0 a1:DV):D (k+1) 95 [S1 a0,S1 a1]=P95 (D k) a0 a1:=dF rfl (p95 ..)
theorem D96(k:Nat)(a0:DV):D (k+1) 96 [S1 a0]=P96 (D k) a0:=dF rfl (p96 ..)
theorem D97(k:Nat)(a0 a1:DV):D (k+1) 97 [S1 a0,S1 a1]=P97 (D k) a0 a1:=dF rfl (p97 ..)
theorem D98(k:Nat)(a0 a1_0 a1_1:DV):D (k+1) 98 [S1 a0,SA [a1_0,a1_1]]=P98 (D k) a0 a1_0 a1_1:=dF rfl (p98 ..)
theorem D125(k:Nat)(a0 a1_0 a1_1:DV):D (k+1) 125 [S1 a0,SA [a1_0,a1_1]]=P125 (D k) a0 a1_0 a1_1:=dF rfl (p125 ..)
end Go.Proofs.Tryz.Kn
end
section
namespace Go.Proofs.Tryz.Kn
open Go Go.CE Go.PE
theorem zhW:∀(l:List UInt8) (i:Nat),zgv l i=(l[i]?).map fun c=>U8 (c.toNat:Int)
 | [],i=>by simp[zgv]
 |c::l,0=>rfl
 |c::l,i+1=>by
  show zgv l i=_;rw[zhW l i];simp
theorem zes(s:ByteArray)(k:IntKind)(i:Nat):qV (.str s) (.int k (i:Int))=(s.data.toList[i]?).map fun c=>U8 (c.toNat:Int):=zhW _ _
theorem zcZ(s:ByteArray):s.size=s.data.toList.length:=(Array.length_toList (xs:=s.data)).symm
theorem zmH(a b:ByteArray):pStr .eql (.str a) (.str b)=some (.bool (a.data.toList==b.data.toList)):=rfl
def qy(n:Int):Bool:=(decide (65≤n)&&decide (n≤90))||(decide (97≤n)&&decide (n≤122))
theorem t57(k:Nat)(n:Int):D (k+1) 57 [S1 (U8 n)]=some (S1 (Bo (qy n))):=by
 rw[D57];unfold P57 qy;by_cases h1:65≤n<;>by_cases h2:n≤90<;>by_cases h3:97≤n<;>by_cases h4:n≤122<;>simp[h1,h2,h3,h4]
def zi1(n:Int):Bool:=qy n||(decide (48≤n)&&decide (n≤57))||decide (n=95)
def isName(s:ByteArray):Bool:=
 match s.data.toList with
 | []=>false
 |c::l=>decide (l.length≤31)&&qy (c.toNat:Int)&&l.all fun c=>zi1 (c.toNat:Int)
theorem l35(k:Nat)(s:ByteArray)(hs:s.data.toList.length≤1000):∀(r:List UInt8) (i:Nat),s.data.toList.drop i=r→
  zP (zlX (D (k+1)) (.str s)) [I6 (i:Int)] []=some (if r.all (fun c=>zi1 (c.toNat:Int)) then(.exit 0,[],[]) else(.ret,[Bo false],[])):=by
 intro r
 induction r with
 |nil=>
  intro i h;refine zz ?_;have:=yb h;simp only[zlX,zx,za2,zb,zl,zcZ,xC this,zq];rfl
 |cons c r ih=>
  intro i h;have h1:=yH h;have h2:(i:Int)<(s.data.toList.length:Int):=by omega
  have ea:pBin .add (I6 (i:Int)) (I6 1)=some (I6 ((i+1:Nat):Int)):=yS;have ix:qV (.str s) (I6 (i:Int))=some (U8 (c.toNat:Int)):=by rw[zes,yF h];rfl
  have body:zlX (D (k+1)) (.str s) [I6 (i:Int)] []=some (if zi1 (c.toNat:Int) then(.normal,[I6 ((i+1:Nat):Int)],[]) else(.ret,[Bo false],[])):=by
   simp only[zlX,zx,za2,zb,zl,zq,zcZ,lt_i h1,if_true,ix,t57,yc,xa,ea,yf,yC];unfold zi1;cases qy (c.toNat:Int) with
   |true=>simp
   |false=>
    by_cases h3:(c.toNat:Int)<48
    ·by_cases h4:(c.toNat:Int)=95
     ·omega
     ·have:¬(48≤(c.toNat:Int)):=by omega
      simp[h3,h4,this]
    ·by_cases h5:57<(c.toNat:Int)
     ·have h6:¬((c.toNat:Int)≤57):=by omega
      by_cases h4:(c.toNat:Int)=95<;>simp[h3,h4,h5,h6]
     ·have h6:(c.toNat:Int)≤57:=by omega
      have h7:48≤(c.toNat:Int):=by omega
      simp[h3,h5,h6,h7]
  cases hc:zi1 (c.toNat:Int) with
  |true=>
   rw[hc]at body;rw[zS body,ih (i+1) (zN h)];simp[hc]
  |false=>
   rw[hc]at body;rw[zE body];simp[hc]
theorem t35(k:Nat)(s:ByteArray):D (k+2) 35 [S1 (St s)]=some (S1 (Bo (isName s))):=by
 rw[D35];unfold P35 isName;simp only[zmH,zb,zq,za2,yC,zcZ];cases hl:s.data.toList with
 |nil=>rfl
 |cons c l=>
  have ix:qV (.str s) (I6 0)=some (U8 (c.toNat:Int)):=by
   have:=zes s .i64 0;rw[hl]at this;exact this
  simp only[ix,zb,t57,yc,xa,zq];rw[show ((c::l:List UInt8)==(ByteArray.mk #[]).data.toList)=false from rfl]
  by_cases h1:l.length≤31
  ·have h2:¬(32<((c::l).length:Int)):=by simp only[List.length_cons];omega
   simp only[h2,h1,decide_true,decide_false,Bool.true_and,Bool.false_eq_true,if_false];cases qy (c.toNat:Int) with
   |false=>rfl
   |true=>
    have:=l35 k s (by rw[hl,List.length_cons];omega) l 1 (by rw[hl];rfl)
    simp only[Bool.not_true,Bool.false_eq_true,if_false,Bool.true_and];rw[show (I6 1:DV)=I6 ((1:Nat):Int) from rfl,this]
    cases l.all fun c=>zi1 (c.toNat:Int)<;>rfl
  ·have h2:32<((c::l).length:Int):=by simp only[List.length_cons];omega
   simp only[h1,h2,decide_true,decide_false,Bool.false_and,if_true];rfl
def right(a b:Int):Int:=if a<0 then 3 else if 127<b then 3 else if b<a then 23 else 0
theorem t61(k:Nat)(a b:Int):D (k+1) 61 [SA [I6 a,I6 b]]=some (S1 (I6 (right a b))):=by
 rw[D61];unfold P61 right;by_cases h1:a<0<;>by_cases h2:127<b<;>by_cases h3:b<a<;>simp[h1,h2,h3]
theorem l95(_O:Orc):∀(b a:Nat),zP (znL) [U64 (b:Int),U64 (a:Int)] []=some (.exit 0,[U64 ((Nat.gcd b a:Nat):Int)],[]):=by
 intro b
 induction b using Nat.strongRecOn with
 |ind b ih=>
  intro a;by_cases hb:0<b
  ·have hz:(b:Int)≠0:=by omega
   have h0:(0:Int)<(b:Int):=by omega
   rw[zS (L':=[U64 ((a % b:Nat):Int),U64 (b:Int)]) (M':=[]) (by simp only[znL,zx,xb,yC,zb,zq,zay _ _ _ hz,h0,decide_true,if_true];rfl),ih (a % b) (Nat.mod_lt _ hb) b,←Nat.gcd_rec]
  ·have:b=0:=by omega
   subst this;exact zz (by simp[znL])
theorem t95(k:Nat)(a b:Nat):D (k+1) 95 [S1 (U64 (a:Int)),S1 (U64 (b:Int))]=some (S1 (U64 ((Nat.gcd b a:Nat):Int))):=by
 rw[D95];unfold P95;rw[l95 B];rfl
theorem qc{k:IntKind}{n:Nat}(h:n≤18446744073709551615):yg .u64 (.int k (n:Int))=some (U64 (n:Int)):=by
 show some (DV.int .u64 (bif Nat.ble n 18446744073709551615 then .ofNat n else IntKind.wrap .u64 (.ofNat n)))=_
 rw[Nat.ble_eq_true_of_le h];rfl
theorem t96(k:Nat){a:Int}(h1:-1000000≤a)(h2:a≤1000000):D (k+1) 96 [S1 (I6 a)]=some (S1 (U64 (a.natAbs:Int))):=by
 rw[D96];unfold P96;by_cases h:a<0
 ·obtain⟨n,rfl⟩:∃n:Nat,a=-(n:Int):=⟨a.natAbs,by omega⟩
  have e1:yg .u64 (I6 (-(n:Int)))=some (U64 (18446744073709551616-(n:Int))):=by
   show some (DV.int .u64 (wp .u64 (-(n:Int))))=_;rw[zos];congr 2;omega
  have e2:wp .u64 (-(18446744073709551616-(n:Int)))=(n:Int):=by rw[zos];omega
  simp only[zl,zb,zq,h,decide_true,if_true,e1,zmI,e2];simp
 ·obtain⟨n,rfl⟩:∃n:Nat,a=(n:Int):=⟨a.natAbs,by omega⟩
  simp only[zl,zb,zq,h,decide_false,Bool.false_eq_true,if_false,qc (show n≤18446744073709551615 by omega)]
  simp
def zbv(n d:Int):Int:=if d≤0 then 2 else if 1000000<d then 2 else if n < -1000000 then 2 else if 1000000<n then 2 else bif Nat.gcd d.toNat n.natAbs==1 then 0 else 2
theorem t75(k:Nat)(n d:Int):D (k+2) 75 [SA [I6 n,I6 d]]=some (S1 (I6 (zbv n d))):=by
 rw[D75];unfold P75 zbv;simp only[zaz,yC,zl,zb,zq,decide_eq_true_eq];by_cases h1:d≤0
 ·simp only[h1,if_true]
 by_cases h2:1000000<d
 ·simp only[h1,h2,if_true,if_false]
 by_cases h3:n < -1000000
 ·simp only[h1,h2,h3,if_true,if_false]
 by_cases h4:1000000<n
 ·simp only[h1,h2,h3,h4,if_true,if_false]
 obtain⟨m,rfl⟩:∃m:Nat,d=(m:Int):=⟨d.toNat,by omega⟩
 simp only[h1,h2,h3,h4,if_false];rw[t96 k (by omega) (by omega)]
 simp only[yc,qc (show m≤18446744073709551615 by omega),zb,t95,yf,zq,Int.toNat_natCast]
 generalize Nat.gcd m n.natAbs=q;by_cases h5:q=1
 ·rw[h5];rfl
 ·have:¬((q:Int)=1):=by omega
  have h6:(q==1)=false:=by simpa using h5
  simp[this,h6]
def wy(n d:Int):Int:=if zbv n d≠0 then 2 else if n≤0 then 3 else if 128*d<n then 3 else if 128<d then 4 else 0
theorem t58(k:Nat)(n d:Int):D (k+3) 58 [SA [I6 n,I6 d]]=some (S1 (I6 (wy n d))):=by
 rw[D58];unfold P58 wy;rw[t75];simp only[yc,yf,zb,zq];by_cases h:zbv n d=0
 ·have hd:0<d∧d≤1000000:=by
   unfold zbv at h;split at h
   ·cases h
   split at h
   ·cases h
   omega
  simp only[h,zaz,zb,zq,zfM (show (-9223372036854775808:Int)≤128*d by omega) (show 128*d≤9223372036854775807 by omega),yC,decide_eq_true_eq]
  by_cases h1:n≤0
  ·simp[h1]
  by_cases h2:128*d<n
  ·simp[h1,h2]
  by_cases h3:128<d<;>simp[h1,h2,h3]
 ·simp[h]
theorem t59(k:Nat)(n:Int):D (k+1) 59 [S1 (I6 n)]=some (S1 (Bo (decide (-256≤n)&&decide (n≤256)))):=by
 rw[D59];unfold P59;by_cases h1:-256≤n<;>by_cases h2:n≤256<;>simp[h1,h2]
def xH(n:Int):Bool:=decide (n<0)||decide (1000000<n)
theorem t77(k:Nat)(n:Int):D (k+1) 77 [S1 (I6 n)]=some (S1 (Bo (xH n))):=by
 rw[D77];unfold P77 xH;by_cases h1:n<0<;>by_cases h2:1000000<n<;>simp[h1,h2]
theorem zsb(O:Orc)(g:Nat)(ds:List DA):appF O (.fn g []) ds=O g ds:=by simp[appF]
def wj{α:Type}(p:α→Bool):List α→Nat→Option Nat
 | [],_=>none
 |x::l,i=>if p x then some i else wj p l (i+1)
theorem wv{α:Type}(p:α→Bool):∀(l:List α) (i:Nat),(wj p l i).isSome=l.any p
 | [],_=>rfl
 |x::l,i=>by
  simp only[wj,List.any_cons];cases h:p x
  ·simp[wv p l (i+1)]
  ·simp
def found:Option Nat→PX
 |some i=>(.ret,[I6 (i:Int)],[])
 |none=>(.exit 0,[],[])
abbrev enW(n:Int):List DV:=[I6 n]
theorem l97(k:Nat)(w:Sl Int)(hw:w.els.length≤9223372036854775807):∀(r:List Int) (i:Nat),w.els.drop i=r→
  zP (zlM (D (k+1)) (I6 (w.els.length:Int)) (enL 1 enW w) (.fn 77 [])) [I6 (i:Int)] []=some (found (wj xH r i)):=by
 intro r
 induction r with
 |nil=>
  intro i h;refine zz ?_;simp only[zlM,zx,zl,zb,xC (yb h),zq];rfl
 |cons x r ih=>
  intro i h;have h1:=yH h;have ea:pBin .add (I6 (i:Int)) (I6 1)=some (I6 ((i+1:Nat):Int)):=yS;have body:zlM (D (k+1)) (I6 (w.els.length:Int)) (enL 1 enW w) (.fn 77 []) [I6 (i:Int)] []=some (if xH x then(.ret,[I6 (i:Int)],[]) else(.normal,[I6 ((i+1:Nat):Int)],[])):=by
   simp only[zlM,zx,zl,zb,lt_i h1,zq,if_true,zR h,xJ,zsb,t77,yc,ea];cases xH x<;>rfl
  cases hc:xH x with
  |true=>rw[hc]at body;rw[zE body];simp[wj,hc,found]
  |false=>rw[hc]at body;rw[zS body,ih (i+1) (zN h)];simp[wj,hc]
theorem t97(k:Nat)(w:Sl Int)(hw:w.els.length≤9223372036854775807):D (k+2) 97 [S1 (enL 1 enW w),S1 (.fn 77 [])]=some (S1 (I6 (match wj xH w.els 0 with|some i=>(i:Int)|none=>-1))):=by
 rw[D97];unfold P97;have:=l97 k w hw w.els 0 rfl;simp only[zH,zb];rw[show (I6 0:DV)=I6 ((0:Nat):Int) from rfl,this]
 cases wj xH w.els 0<;>rfl
theorem t76(k:Nat)(w:Sl Int)(hw:w.els.length≤9223372036854775807):D (k+3) 76 [S1 (enL 1 enW w),S1 (.fn 77 [])]=some (S1 (Bo (w.els.any xH))):=by
 rw[D76];unfold P76;rw[t97 k w hw,←wv xH w.els 0];cases wj xH w.els 0 with
 |none=>rfl
 |some i=>
  have:(0:Int)≤(i:Int):=by omega
  simp[this]
theorem t60(k:Nat)(w:Sl Int)(hw:w.els.length≤9223372036854775807):D (k+4) 60 [S1 (enL 1 enW w)]=some (S1 (I6 (if w.els.any xH then 3 else 0))):=by
 rw[D60];unfold P60;rw[t76 k w hw];cases w.els.any xH<;>rfl
structure Rank where
 name:ByteArray
 tone:ByteArray
 num:Int
 den:Int
 first:Int
 wind:Sl Int
def enR(r:Rank):List DV:=[St r.name,St r.tone,I6 r.num,I6 r.den,I6 r.first,enL 1 enW r.wind]
def yP(r:Rank):Int:=
 if !isName r.name then 8 else if !isName r.tone then 8 else if wy r.num r.den≠0 then wy r.num r.den
 else if !(decide (-256≤r.first)&&decide (r.first≤256)) then 3 else if r.wind.els.length=0 then 13 else if 128<r.wind.els.length then 4 else if r.wind.els.any xH then 3 else 0
theorem t36(k:Nat)(r:Rank)(hw:r.wind.els.length≤9223372036854775807):D (k+5) 36 [SA (enR r)]=some (S1 (I6 (yP r))):=by
 unfold enR;rw[D36];unfold P36 yP;simp only[t35,yc,xa,zb,zq];cases isName r.name with
 |false=>rfl
 |true=>
  cases isName r.tone with
  |false=>rfl
  |true=>
   simp only[t58,t59,t60 k r.wind hw,yc,xa,zb,zq,yf,zH,xx,yC,Bool.not_true,Bool.false_eq_true,if_false];by_cases h1:wy r.num r.den=0
   ·simp only[h1];cases (decide (-256≤r.first)&&decide (r.first≤256)) with
    |false=>rfl
    |true=>
     by_cases h2:r.wind.els.length=0
     ·simp[h2]
     ·have h3:¬((r.wind.els.length:Int)=0):=by omega
      by_cases h4:128<r.wind.els.length
      ·have h5:(128:Int)<(r.wind.els.length:Int):=by omega
       simp[h2,h4,h5]
      ·have h5:¬((128:Int)<(r.wind.els.length:Int)):=by omega
       simp[h2,h4,h5]
   ·simp[h1]
def wG:List Rank→Int
 | []=>0
 |r::l=>if yP r≠0 then yP r else wG l
def zcf(r:Rank):Prop:=r.wind.els.length≤9223372036854775807
def errX(id:Nat)(e:Int):PX:=if e≠0 then(.ret,[I6 e],[]) else(.exit id,[],[])
theorem l78(k:Nat)(l:Sl Rank)(hl:l.els.length≤9223372036854775807)(hr:∀r∈l.els,zcf r):∀(r:List Rank) (i:Nat),l.els.drop i=r→
  zP (zlT (D (k+5)) (I6 (l.els.length:Int)) (enL 6 enR l)) [I6 (i:Int)] []=some (errX 0 (wG r)):=by
 intro r
 induction r with
 |nil=>
  intro i h;refine zz ?_;simp only[zlT,zx,zl,zb,xC (yb h),zq];rfl
 |cons x r ih=>
  intro i h;have h1:=yH h;have ea:pBin .add (I6 (i:Int)) (I6 1)=some (I6 ((i+1:Nat):Int)):=yS;have hx:zcf x:=hr x (Lz3 (yF h));have c:D (k+5) 36 [SA [atD (enR x) 0,atD (enR x) 1,atD (enR x) 2,atD (enR x) 3,atD (enR x) 4,atD (enR x) 5]]=some (S1 (I6 (yP x))):=t36 k x hx;have body:zlT (D (k+5)) (I6 (l.els.length:Int)) (enL 6 enR l) [I6 (i:Int)] []=some (if yP x≠0 then(.ret,[I6 (yP x)],[]) else(.normal,[I6 ((i+1:Nat):Int)],[])):=by
   simp only[zlT,zx,zl,zb,lt_i h1,zq,if_true,zR h,c,yc,yf,ea];by_cases hz:yP x=0<;>simp[hz]
  by_cases hc:yP x=0
  ·rw[if_neg (by simpa using hc)]at body;rw[zS body,ih (i+1) (zN h)];simp[wG,hc]
  ·rw[if_pos hc]at body;rw[zE body];simp[wG,hc,errX]
structure Place where
 ranks:Sl Rank
 low:Int
 high:Int
def enP(x:Place):List DV:=[enL 6 enR x.ranks,I6 x.low,I6 x.high]
structure Place.ok (x:Place):Prop where
 len:x.ranks.els.length≤9223372036854775807
 ranks:∀r∈x.ranks.els,zcf r
def uk(x:Place):Int:=if 60<x.ranks.els.length then 4 else if wG x.ranks.els≠0 then wG x.ranks.els else right x.low x.high
theorem t78(k:Nat)(x:Place)(hx:x.ok):D (k+6) 78 [SA (enP x)]=some (S1 (I6 (uk x))):=by
 unfold enP;rw[D78];unfold P78 uk;have:=l78 k x.ranks hx.len hx.ranks x.ranks.els 0 rfl;simp only[zH,zb,yC,zq];rw[show (I6 0:DV)=I6 ((0:Nat):Int) from rfl,this]
 by_cases h1:60<x.ranks.els.length
 ·have h2:(60:Int)<(x.ranks.els.length:Int):=by omega
  simp[h1,h2]
 ·have h2:¬((60:Int)<(x.ranks.els.length:Int)):=by omega
  simp only[h1,h2,decide_false,Bool.false_eq_true,if_false];unfold errX;by_cases h3:wG x.ranks.els=0
  ·simp[h3,t61]
  ·simp[h3]
structure Draw where
 rank:Int
 shift:Int
deriving DecidableEq
def enD(d:Draw):List DV:=[I6 d.rank,I6 d.shift]
theorem zli(a b:Draw):eqDs [1,1] [I6 a.rank,I6 a.shift] [I6 b.rank,I6 b.shift]=some (decide (a=b)):=by
 cases a with|mk r s=>
 cases b with|mk r' s'=>
 simp only[eqDs,eqD,y1,cond_true,uZ];by_cases h1:r=r'
 ·by_cases h2:s=s'
  ·simp[h1,h2]
  ·have e2:(s==s')=false:=by simpa using h2
   simp[h1,h2,e2]
 ·have e1:(r==r')=false:=by simpa using h1
  simp[h1,e1]
theorem l125(d:Draw)(l:Sl Draw)(hl:l.els.length≤9223372036854775807):∀(r:List Draw) (i:Nat),l.els.drop i=r→
  zP (zfj (I6 (l.els.length:Int)) (enL 2 enD l) (I6 d.rank) (I6 d.shift)) [I6 (i:Int)] []=some (found (wj (fun x=>decide (d=x)) r i)):=by
 intro r
 induction r with
 |nil=>
  intro i h;refine zz ?_;simp only[zfj,zx,zl,zb,xC (yb h),zq];rfl
 |cons x r ih=>
  intro i h;have h1:=yH h;have ea:pBin .add (I6 (i:Int)) (I6 1)=some (I6 ((i+1:Nat):Int)):=yS;have eq:=zli d x;have body:zfj (I6 (l.els.length:Int)) (enL 2 enD l) (I6 d.rank) (I6 d.shift) [I6 (i:Int)] []=some (if d=x then(.ret,[I6 (i:Int)],[]) else(.normal,[I6 ((i+1:Nat):Int)],[])):=by
   simp only[zfj,zx,zl,zb,lt_i h1,zq,if_true,zR h,enD,xJ,wN,eq,ea];by_cases hz:d=x<;>simp[hz]
  by_cases hc:d=x
  ·rw[if_pos hc]at body;rw[zE body];simp[wj,hc,found]
  ·rw[if_neg hc]at body;rw[zS body,ih (i+1) (zN h)];simp[wj,hc]
theorem t125(k:Nat)(d:Draw)(l:Sl Draw)(hl:l.els.length≤9223372036854775807):D (k+1) 125 [S1 (enL 2 enD l),SA (enD d)]=some (S1 (I6 (match wj (fun x=>decide (d=x)) l.els 0 with|some i=>(i:Int)|none=>-1))):=by
 unfold enD;rw[D125];unfold P125;have:=l125 d l hl l.els 0 rfl;unfold enD at this;simp only[zH,zb];rw[show (I6 0:DV)=I6 ((0:Nat):Int) from rfl,this]
 cases wj (fun x=>decide (d=x)) l.els 0<;>rfl
theorem t98(k:Nat)(d:Draw)(l:Sl Draw)(hl:l.els.length≤9223372036854775807):D (k+2) 98 [S1 (enL 2 enD l),SA (enD d)]=some (S1 (Bo (l.els.any fun x=>decide (d=x)))):=by
 have:=t125 k d l hl;unfold enD at this ⊢;rw[D98];unfold P98;rw[this,←wv (fun x=>decide (d=x)) l.els 0]
 cases wj (fun x=>decide (d=x)) l.els 0 with
 |none=>rfl
 |some i=>
  have:(0:Int)≤(i:Int):=by omega
  simp[this]
end Go.Proofs.Tryz.Kn
end
section
namespace Go.Proofs.Tryz.Kn
open Go Go.CE Go.PE
def enF(p:Int×Int):List DV:=[I6 p.1,I6 p.2]
def feetA:List (Int×Int):=[(8,1),(4,1),(16,1),(2,1),(8,3),(8,5),(4,3),(1,1),(32,1),(16,3),(16,5),(32,3),(8,7),(2,3),(1,2),(64,1)]
def feetB:List (Int×Int):=[(8,1),(4,1),(16,1),(8,3),(2,1),(8,5)]
def fA(n:Nat):Int×Int:=(feetA[n % 16]?).getD (8,1)
def fB(n:Nat):Int×Int:=(feetB[n % 6]?).getD (8,1)
theorem zoe(n:Nat):feetA[n % 16]? = some (fA n):=by
 unfold fA;rw[Lz5 (show n % 16<feetA.length by rw[show feetA.length=16 from rfl];exact Nat.mod_lt _ (by omega))]
 rfl
theorem zoc(n:Nat):feetB[n % 6]? = some (fB n):=by
 unfold fB;rw[Lz5 (show n % 6<feetB.length by rw[show feetB.length=6 from rfl];exact Nat.mod_lt _ (by omega))]
 rfl
theorem zod(n:Nat):fA n∈feetA:=Lz3 (zoe n)
theorem zcC(n:Nat):fB n∈feetB:=Lz3 (zoc n)
theorem zrF:∀p∈feetA,wy p.1 p.2=0:=by
 have:(feetA.all fun p=>wy p.1 p.2==0)=true:=by kernel_rfl
 intro p hp
 simpa using List.all_eq_true.1 this p hp
theorem zrE:∀p∈feetB,wy p.1 p.2=0:=by
 have:(feetB.all fun p=>wy p.1 p.2==0)=true:=by kernel_rfl
 intro p hp
 simpa using List.all_eq_true.1 this p hp
theorem fchk:(shSums.all fun s=>match xQ s.g s.args ⟨.z,.nil⟩ bSums with|some v=>eqA v s.res|none=>false)=true:=by kernel_rfl
theorem ztE{s:CE.Sum}(hs:s∈shSums){xs:List DA}{d:DA}(hg:([91,92,93,94]:List Nat).any (Nat.beq s.g)=true)(ha:avs xs=some s.args)(hd:ofA s.res=some d):B s.g xs=some d:=by
 have h:=List.all_eq_true.1 fchk s hs;split at h
 ·rename_i v hv;have:=zhG h;subst this;unfold B sumB;have:(bIds.any (Nat.beq s.g))=true:=by
   simp only[bIds,List.any_cons,List.any_nil,Bool.or_false,Bool.or_eq_true]at hg ⊢;rcases hg with h|h|h|h<;>simp[h]
  rw[this,cond_true,ha];simp only[hv,hd]
 ·cases h
theorem zl6(k:Nat){s:CE.Sum}(hs:s∈shSums){xs:List DA}{d:DA}(hg:([91,92,93,94]:List Nat).any (Nat.beq s.g)=true)(ha:avs xs=some s.args)(hd:ofA s.res=some d):D k s.g xs=some d:=zeX (ztE hs hg ha hd)
theorem zpg{n:Nat}(h:n∈pows):powS n∈shSums:=by unfold shSums;exact List.mem_append_left _ (List.mem_append_left _ (List.mem_append_left _ (List.mem_map_of_mem h)))
theorem mem_of{n:Nat}(h:n∈pows):ofS n∈shSums:=by unfold shSums;exact List.mem_append_left _ (List.mem_append_left _ (List.mem_append_right _ (List.mem_map_of_mem h)))
theorem zkE{x:Nat×Nat}(h:x∈dens){s:CE.Sum}(hs:s∈xf x):s∈shSums:=by unfold shSums;exact List.mem_append_left _ (List.mem_append_right _ (List.mem_flatMap.2 ⟨x,h,hs⟩))
theorem zph{x:Nat×Nat×Nat}(h:x∈prs){s:CE.Sum}(hs:s∈yi x):s∈shSums:=by unfold shSums;exact List.mem_append_right _ (List.mem_flatMap.2 ⟨x,h,hs⟩)
theorem e92(k:Nat){n:Nat}(h:n∈pows):D k 92 [S1 (I6 (n:Int))]=some (S1 (St (dec n))):=zl6 k (mem_of h) rfl rfl rfl
theorem e91(k:Nat){n:Nat}(h:n∈pows):D k 91 [S1 (St (dec n)),S1 (I6 24)]=some (.tup [.one (St (dec (n^24))),.one (I6 0)]):=zl6 k (zpg h) rfl rfl rfl
theorem e093(k:Nat){x:Nat×Nat}(h:x∈dens):D k 93 [S1 (St (dec (x.1^24))),S1 (.str ⟨#[50]⟩)]=some (S1 (St (dec (lim x.1 0)))):=by
 have e:x.1^24*2=lim x.1 0:=by unfold lim;omega
 rw[←e];exact zl6 k (zkE h (List.mem_cons_self ..)) rfl rfl rfl
theorem e193(k:Nat){x:Nat×Nat}(h:x∈dens){j:Nat}(hj:j<x.2):D k 93 [S1 (St (dec (lim x.1 j))),S1 (.str ⟨#[52]⟩)]=some (S1 (St (dec (lim x.1 (j+1))))):=by
 have e:lim x.1 j*4=lim x.1 (j+1):=by
  show 2*x.1^24*4^j*4=2*x.1^24*4^(j+1);rw[Nat.mul_assoc (2*x.1^24),←Nat.pow_succ]
 rw[←e];exact zl6 k (zkE h (List.mem_cons_of_mem _ (List.mem_map.2 ⟨j,List.mem_range.2 hj,rfl⟩))) rfl rfl rfl
theorem e94(k:Nat){x:Nat×Nat×Nat}(h:x∈prs){j:Nat}(hj:j≤x.2.2):D k 94 [S1 (St (dec (x.1^24))),S1 (St (dec (lim x.2.1 j)))]=some (S1 (I6 (cmpI (x.1^24) (lim x.2.1 j)))):=
 zl6 k (zph h (List.mem_map.2 ⟨j,List.mem_range.2 (by omega),rfl⟩)) rfl rfl rfl
def upN:Nat→Nat→Nat→Int→Nat×Int
 |0,num,_,n=>(num,n)
 |f+1,num,den,n=>if num<den then upN f (num*2) den (n-12) else(num,n)
def dnN:Nat→Nat→Nat→Int→Nat×Int
 |0,_,den,n=>(den,n)
 |f+1,num,den,n=>if 2*den≤num then dnN f num (den*2) (n+12) else(den,n)
theorem lu74(den:Nat)(hd:den≤1000000):∀(f num:Nat) (n:Int),den≤(upN f num den n).1→-1000000≤n-12*(f:Int)→n≤1000000→
  zP (zi6 (I6 (den:Int))) [I6 (num:Int),I6 n] []=some (.exit 0,[I6 ((upN f num den n).1:Int),I6 (upN f num den n).2],[]):=by
 intro f
 induction f with
 |zero=>
  intro num n h _ _;have h:den≤num:=h;have:decide ((num:Int)<(den:Int))=false:=xC h;refine zz ?_;simp only[zi6,zx,xb,zl,zb,this,zq,upN];rfl
 |succ f ih=>
  intro num n h h2 h3;unfold upN at h ⊢;by_cases hc:num<den
  ·rw[if_pos hc]at h ⊢;have h1:decide ((num:Int)<(den:Int))=true:=lt_i hc;have e1:pBin .mul (I6 (num:Int)) (I6 2)=some (I6 ((num*2:Nat):Int)):=by
    rw[show ((num*2:Nat):Int)=(num:Int)*2 by omega]
    exact zfM (by omega) (by omega)
   have e2:pBin .sub (I6 n) (I6 12)=some (I6 (n-12)):=zjj;have body:zi6 (I6 (den:Int)) [I6 (num:Int),I6 n] []=some (.normal,[I6 ((num*2:Nat):Int),I6 (n-12)],[]):=by
    simp only[zi6,zx,xb,zl,zb,h1,zq,if_true,e1,e2]
   rw[zS body];exact ih _ _ h (by omega) (by omega)
  ·rw[if_neg hc];have:decide ((num:Int)<(den:Int))=false:=xC (by omega)
   refine zz ?_;simp only[zi6,zx,xb,zl,zb,this,zq];rfl
theorem ld74(a:DV)(num:Nat)(hd:num≤1000000):∀(f den:Nat) (n:Int),num<2*(dnN f num den n).1→n+12*(f:Int)≤1000000→-1000000≤n→0<den→den≤1000000→
  zP (zcQ [I6 (num:Int),a]) [I6 (den:Int),I6 n] []=some (.exit 2,[I6 ((dnN f num den n).1:Int),I6 (dnN f num den n).2],[]):=by
 intro f
 induction f with
 |zero=>
  intro den n h _ _ _ h5;have h:num<2*den:=h;have e1:pBin .mul (I6 2) (I6 (den:Int))=some (I6 ((2*den:Nat):Int)):=by
   rw[show ((2*den:Nat):Int)=2*(den:Int) by omega]
   exact zfM (by omega) (by omega)
  have:decide (((2*den:Nat):Int)≤(num:Int))=false:=decide_eq_false (by omega)
  refine zz ?_;simp only[zcQ,zx,xb,e1,jh,zb,this,zq,dnN];rfl
 |succ f ih=>
  intro den n h h2 h3 h4 h5;unfold dnN at h ⊢;have e1:pBin .mul (I6 2) (I6 (den:Int))=some (I6 ((2*den:Nat):Int)):=by
   rw[show ((2*den:Nat):Int)=2*(den:Int) by omega]
   exact zfM (by omega) (by omega)
  by_cases hc:2*den≤num
  ·rw[if_pos hc]at h ⊢;have h1:decide (((2*den:Nat):Int)≤(num:Int))=true:=decide_eq_true (by omega)
   have e3:pBin .mul (I6 (den:Int)) (I6 2)=some (I6 ((den*2:Nat):Int)):=by
    rw[show ((den*2:Nat):Int)=(den:Int)*2 by omega]
    exact zfM (by omega) (by omega)
   have e2:pBin .add (I6 n) (I6 12)=some (I6 (n+12)):=yS;have body:zcQ [I6 (num:Int),a] [I6 (den:Int),I6 n] []=some (.normal,[I6 ((den*2:Nat):Int),I6 (n+12)],[]):=by
    simp only[zcQ,zx,xb,e1,jh,zb,h1,zq,if_true,e3,e2]
   rw[zS body];exact ih _ _ h (by omega) (by omega) (by omega) (by omega)
  ·rw[if_neg hc];have:decide (((2*den:Nat):Int)≤(num:Int))=false:=decide_eq_false (by omega)
   refine zz ?_;simp only[zcQ,zx,xb,e1,jh,zb,this,zq];rfl
theorem zoW:(prs.all fun x=>(List.range x.2.2).all (fun j=>Nat.ble (Nat.succ (lim x.2.1 j)) (x.1^24))&&Nat.ble (x.1^24) (lim x.2.1 x.2.2))=true:=by kernel_rfl
theorem zjV:(prs.all fun x=>dens.any (fun y=>Nat.beq y.1 x.2.1&&Nat.ble x.2.2 y.2)&&pows.any (Nat.beq x.1)&&pows.any (Nat.beq x.2.1))=true:=by kernel_rfl
theorem zd0{n:Nat}{l:List Nat}(h:l.any (Nat.beq n)=true):n∈l:=by
 obtain⟨y,hy,e⟩:=List.any_eq_true.1 h;rw[Lz1 e];exact hy
theorem lc74(k:Nat)(x:Nat×Nat×Nat)(hx:x∈prs)(n:Int)(h1:-1000000≤n)(h2:n≤1000000)(hm:x.2.2≤100):∀(r j:Nat),j+r=x.2.2→
  zP (zfb (D k) [.one (St (dec (x.1^24))),.one (I6 0)]) [St (dec (lim x.2.1 j)),I6 (n+(j:Int))] []=some (.exit 4,[I6 (n+(x.2.2:Int))],[]):=by
 have hc:=List.all_eq_true.1 zoW x hx;have hdn:=List.all_eq_true.1 zjV x hx;simp only[LzC]at hc hdn;obtain⟨y,hy,ey⟩:=List.any_eq_true.1 hdn.1.1;simp only[LzC]at ey;have ey1:y.1=x.2.1:=Lz1 ey.1;have ey2:=Lz4 ey.2;intro r
 induction r with
 |zero=>
  intro j hj;have hj:j=x.2.2:=by omega
  subst hj;have c:=e94 k hx (LzB _);have hle:=Lz4 hc.2;have hs:decide ((0:Int)<cmpI (x.1^24) (lim x.2.1 x.2.2))=false:=by
   unfold cmpI;rw[show Nat.ble (Nat.succ (lim x.2.1 x.2.2)) (x.1^24)=false from by cases hb:Nat.ble (Nat.succ (lim x.2.1 x.2.2)) (x.1^24) with|false=>rfl|true=>have:=Lz4 hb;omega]
   cases Nat.ble (Nat.succ (x.1^24)) (lim x.2.1 x.2.2)<;>rfl
  refine zz ?_;simp only[zfb,zx,xb,zcH,qD,c,yc,yC,zb,hs,zq];rfl
 |succ r ih=>
  intro j hj;have c:=e94 k hx (show j≤x.2.2 by omega)
  have m:=e193 k hy (show j<y.2 by omega)
  rw[ey1]at m;have hlt:=Lz4 (List.all_eq_true.1 hc.1 j (List.mem_range.2 (by omega)))
  have hs:decide ((0:Int)<cmpI (x.1^24) (lim x.2.1 j))=true:=by
   unfold cmpI;rw[Nat.ble_eq_true_of_le hlt];rfl
  have ea:pBin .add (I6 (n+(j:Int))) (I6 1)=some (I6 (n+((j+1:Nat):Int))):=by
   rw[show n+((j+1:Nat):Int)=n+(j:Int)+1 by omega]
   exact yS
  have body:zfb (D k) [.one (St (dec (x.1^24))),.one (I6 0)] [St (dec (lim x.2.1 j)),I6 (n+(j:Int))] []=some (.normal,[St (dec (lim x.2.1 (j+1))),I6 (n+((j+1:Nat):Int))],[]):=by
   simp only[zfb,zx,xb,zcH,qD,c,yc,yC,zb,hs,zq,if_true,ea,m]
  rw[zS body];exact ih (j+1) (by omega)
def numF(f g:Int×Int):Nat:=(g.1*f.2).toNat
def denF(f g:Int×Int):Nat:=(g.2*f.1).toNat
def shU(f g:Int×Int):Nat×Int:=upN 20 (numF f g) (denF f g) 0
def shD(f g:Int×Int):Nat×Int:=dnN 20 (shU f g).1 (denF f g) (shU f g).2
def shM(f g:Int×Int):Nat:=((prs.find? fun x=>Nat.beq x.1 (shU f g).1&&Nat.beq x.2.1 (shD f g).1).map fun x=>x.2.2).getD 0
def shf(f g:Int×Int):Int:=(shD f g).2+(shM f g:Int)
def zqF(f g:Int×Int):Bool:=
 decide (0≤g.1*f.2)&&decide (0<g.2*f.1)&&Nat.ble (denF f g) (shU f g).1&&Nat.ble (Nat.succ (shU f g).1) (2*(shD f g).1)&&(prs.any fun x=>Nat.beq x.1 (shU f g).1&&Nat.beq x.2.1 (shD f g).1&&Nat.beq x.2.2 (shM f g))
 && Nat.ble (denF f g) 1000000&&Nat.ble (numF f g) 1000000&&Nat.ble (shU f g).1 1000000&&Nat.ble (shM f g) 100&&decide (-1000≤(shU f g).2)&&decide ((shU f g).2≤1000)&&decide (-1000≤(shD f g).2)&&decide ((shD f g).2≤1000)&&decide (-100≤shf f g)&&decide (shf f g≤100)
theorem zqD:(feetB.all fun f=>feetA.all fun g=>zqF f g)=true:=by kernel_rfl
structure ShOk (f g:Int×Int):Prop where
 a:0≤g.1*f.2
 b:0<g.2*f.1
 c:denF f g≤(shU f g).1
 d:(shU f g).1<2*(shD f g).1
 e:∃x∈prs,x.1=(shU f g).1∧x.2.1=(shD f g).1∧x.2.2=shM f g
 f1:denF f g≤1000000
 f2:numF f g≤1000000
 f3:(shU f g).1≤1000000
 f4:shM f g≤100
 g1:-1000≤(shU f g).2
 g2:(shU f g).2≤1000
 g3:-1000≤(shD f g).2
 g4:(shD f g).2≤1000
 h1:-100≤shf f g
 h2:shf f g≤100
theorem zjw{f g:Int×Int}(hf:f∈feetB)(hg:g∈feetA):ShOk f g:=by
 have h:=List.all_eq_true.1 (List.all_eq_true.1 zqD f hf) g hg;unfold zqF at h;simp only[LzC,decide_eq_true_eq]at h;obtain⟨⟨⟨⟨⟨⟨⟨⟨⟨⟨⟨⟨⟨⟨a,b⟩,c⟩,d⟩,e⟩,f1⟩,f2⟩,f3⟩,f4⟩,g1⟩,g2⟩,g3⟩,g4⟩,h1⟩,h2⟩:=h;obtain⟨x,hx,hq⟩:=List.any_eq_true.1 e;simp only[LzC]at hq;exact⟨a,b,Lz4 c,Lz4 d,⟨x,hx,Lz1 hq.1.1,Lz1 hq.1.2,Lz1 hq.2⟩,Lz4 f1,Lz4 f2,Lz4 f3,Lz4 f4,g1,g2,g3,g4,h1,h2⟩
theorem zjv(f g:Int×Int)(hf:f∈feetB)(hg:g∈feetA):-100≤shf f g∧shf f g≤100:=⟨(zjw hf hg).h1,(zjw hf hg).h2⟩
theorem t74(k:Nat)(f g:Int×Int)(hf:f∈feetB)(hg:g∈feetA):D (k+1) 74 [SA (enF f),SA (enF g)]=some (S1 (I6 (shf f g))):=by
 have H:=zjw hf hg;obtain⟨x,hx,x1,x2,x3⟩:=H.e;have a1:g.1*f.2=((numF f g:Nat):Int):=by unfold numF;have:=H.a;omega
 have a2:g.2*f.1=((denF f g:Nat):Int):=by unfold denF;have:=H.b;omega
 have hb:=H.b;rw[a2]at hb;have b1:=H.f1;have b2:=H.f2;have b3:=H.f3;have b4:=H.f4;have c1:=H.g1;have c2:=H.g2;have c3:=H.g3;have c4:=H.g4;have m1:pBin .mul (I6 g.1) (I6 f.2)=some (I6 ((numF f g:Nat):Int)):=by rw[←a1];exact zfM (by omega) (by omega)
 have m2:pBin .mul (I6 g.2) (I6 f.1)=some (I6 ((denF f g:Nat):Int)):=by rw[←a2];exact zfM (by omega) (by omega)
 have lu:=lu74 (denF f g) b1 20 (numF f g) 0 H.c (by omega) (by omega)
 have ld:=ld74 (I6 (shU f g).2) (shU f g).1 b3 20 (denF f g) (shU f g).2 H.d (by omega) (by omega) (by omega) b1
 have lc:=lc74 k x hx (shD f g).2 (by omega) (by omega) (by omega) x.2.2 0 (by omega)
 have hdn:=List.all_eq_true.1 zjV x hx;simp only[LzC]at hdn;obtain⟨y,hy,ey⟩:=List.any_eq_true.1 hdn.1.1;simp only[LzC]at ey;have ey1:y.1=x.2.1:=Lz1 ey.1;have o1:=e92 k (zd0 hdn.1.2);have p1:=e91 k (zd0 hdn.1.2);have o2:=e92 k (zd0 hdn.2);have p2:=e91 k (zd0 hdn.2);have u0:=e093 k hy;rw[ey1]at u0;rw[x1]at o1 p1 lc;rw[x2]at o2 p2 u0 lc;rw[x3]at lc;rw[show (shD f g).2+((0:Nat):Int)=(shD f g).2 by omega]at lc
 have hU:upN 20 (numF f g) (denF f g) 0=shU f g:=rfl;have hD:dnN 20 (shU f g).1 (denF f g) (shU f g).2=shD f g:=rfl;rw[hU]at lu;rw[hD]at ld;unfold enF;rw[D74];unfold P74;have bt:∀{β:Type} (a b:DV) (K:List DS→Option β),bT [none,none] (some (.tup [.one a,.one b])) K=K [.one a,.one b]:=fun _ _ _=>rfl
 simp only[m1,m2,zb];rw[lu];simp only[yn,Nat.beq_refl,cond_true,zx,xb];rw[ld];simp only[yn,Nat.beq_refl,cond_true,zx,xb,o1,o2,yc,p1,p2,bt,zcH,qD,u0];rw[lc];rfl
theorem t73(k:Nat)(f g:Int×Int)(hf:f∈feetB)(hg:g∈feetA):D (k+4) 73 [SA (enF f),SA (enF g)]=some (S1 (I6 0)):=by
 have c1:=t58 k f.1 f.2;have c2:=t58 k g.1 g.2;rw[zrE f hf]at c1;rw[zrF g hg]at c2;unfold enF;rw[D73];unfold P73;simp only[c1,c2,yc,yf,zb,zq];rfl
theorem t56(k:Nat)(f g:Int×Int)(hf:f∈feetB)(hg:g∈feetA):D (k+5) 56 [SA (enF f),SA (enF g)]=some (.tup [.one (I6 (shf f g)),.one (I6 0)]):=by
 have c1:=t73 k f g hf hg;have c2:=t74 (k+3) f g hf hg;unfold enF at c1 c2 ⊢;rw[D56];unfold P56;simp only[c1,c2,yc,yf,zb,zq];rfl
end Go.Proofs.Tryz.Kn
end
section
namespace Go.Proofs.Tryz.Kn
open Go Go.CE Go.PE
theorem ztx(y:Nat):bndD none 0 y=some 0:=rfl
theorem zty{k:IntKind}{i d y:Nat}(h:i≤y):bndD (some (.int k (i:Int))) d y=some i:=by
 show (bif Nat.ble i y then some i else none)=_
 rw[Nat.ble_eq_true_of_le h];rfl
theorem za0{α:Type}{st i:Nat}{f:α→List DV}{l:List α}{k:IntKind}(h:i≤l.length):
  uE st (enL st f (some l)) none (some (.int k (i:Int)))=some (enL st f (some (l.take i))):=by
 unfold uE;rw[xZ];simp only[Nat.beq_refl,cond_true,List.length_map,zty h,ztx];rw[Bool.true_or,cond_true,List.drop_zero,Nat.sub_zero,←List.map_take];rfl
def vL(n:Nat):List Draw→List Draw→Int
 |_,[]=>0
 |p,d::r=>if d.rank<0 then 10 else if (n:Int)≤d.rank then 10 else if d.shift < -127 then 3 else if 127<d.shift then 3 else if p.any (fun x=>decide (d=x)) then 9 else vL n (p++[d]) r
def yU(n:Nat)(l:List Draw):Int:=if 8<l.length then 4 else vL n [] l
theorem l79(k:Nat)(rs:Sl Rank)(l:List Draw)(hl:l.length≤9223372036854775807):∀(r:List Draw) (i:Nat),l.drop i=r→
  zP (zlS (D (k+2)) (I6 (l.length:Int)) (enL 2 enD (some l)) (enL 6 enR rs)) [I6 (i:Int)] []=some (errX 0 (vL rs.els.length (l.take i) r)):=by
 intro r
 induction r with
 |nil=>
  intro i h;refine zz ?_;simp only[zlS,zx,zl,zb,xC (yb h),zq];rfl
 |cons x r ih=>
  intro i h;have h1:=yH h;have ea:pBin .add (I6 (i:Int)) (I6 1)=some (I6 ((i+1:Nat):Int)):=yS;have ix:pIdx 2 (enL 2 enD (some l)) (I6 (i:Int))=some (enD x):=zR (v:=some l) h _;have sl:uE 2 (enL 2 enD (some l)) none (some (I6 (i:Int)))=some (enL 2 enD (some (l.take i))):=za0 (by omega)
  have c:=t98 k x (some (l.take i)) (by simp only[Sl.els,Option.getD_some,List.length_take];omega)
  simp only[enD]at c;have body:zlS (D (k+2)) (I6 (l.length:Int)) (enL 2 enD (some l)) (enL 6 enR rs) [I6 (i:Int)] [] =
    some (if x.rank<0 then(.ret,[I6 10],[]) else if (rs.els.length:Int)≤x.rank then(.ret,[I6 10],[]) else if x.shift < -127 then(.ret,[I6 3],[]) else if 127<x.shift then(.ret,[I6 3],[]) else if (l.take i).any (fun y=>decide (x=y)) then(.ret,[I6 9],[]) else(.normal,[I6 ((i+1:Nat):Int)],[])):=by
   simp only[zlS,zx,zl,zb,lt_i h1,zq,if_true,ix,enD,xJ,wN,zH,jh,yC,sl,c,yc,ea,decide_eq_true_eq,Sl.els,Option.getD_some]
   repeat (split<;>try rfl)
  have hn:l.take (i+1)=l.take i++[x]:=by rw[List.take_add_one,yF h];rfl
  unfold vL;by_cases a1:x.rank<0
  ·rw[if_pos a1]at body ⊢;rw[zE body];rfl
  rw[if_neg a1]at body ⊢;by_cases a2:(rs.els.length:Int)≤x.rank
  ·rw[if_pos a2]at body ⊢;rw[zE body];rfl
  rw[if_neg a2]at body ⊢;by_cases a3:x.shift < -127
  ·rw[if_pos a3]at body ⊢;rw[zE body];rfl
  rw[if_neg a3]at body ⊢;by_cases a4:127<x.shift
  ·rw[if_pos a4]at body ⊢;rw[zE body];rfl
  rw[if_neg a4]at body ⊢;by_cases a5:(l.take i).any (fun y=>decide (x=y))=true
  ·rw[if_pos a5]at body ⊢;rw[zE body];rfl
  rw[if_neg a5]at body ⊢;rw[zS body,ih (i+1) (zN h),hn]
theorem t79(k:Nat)(x:Place)(l:Sl Draw)(hl:l.els.length≤9223372036854775807):D (k+3) 79 [SA (enP x),S1 (enL 2 enD l)]=some (S1 (I6 (yU x.ranks.els.length l.els))):=by
 unfold enP;rw[D79];unfold P79 yU;simp only[zH,zb,yC,zq];by_cases h1:8<l.els.length
 ·have h2:(8:Int)<(l.els.length:Int):=by omega
  simp[h1,h2]
 ·have h2:¬((8:Int)<(l.els.length:Int)):=by omega
  simp only[h1,h2,decide_false,Bool.false_eq_true,if_false];cases l with
  |none=>rw[zz (id:=0) (L':=[]) (M':=[]) (by rfl)];rfl
  |some l=>
   have:=l79 k x.ranks l hl l 0 rfl;rw[show (I6 0:DV)=I6 ((0:Nat):Int) from rfl,show Sl.els (some l:Sl Draw)=l from rfl,this,List.take_zero]
   unfold errX;by_cases h3:vL x.ranks.els.length [] l=0
   ·simp[h3]
   ·simp[h3]
structure Seg where
 lo:Int
 hi:Int
 draws:Sl Draw
def enS(g:Seg):List DV:=[I6 g.lo,I6 g.hi,enL 2 enD g.draws]
def zqG(g:Seg):Prop:=g.draws.els.length≤9223372036854775807
structure Stop where
 name:ByteArray
 num:Int
 den:Int
 segs:Sl Seg
def wD(s:Stop):List DV:=[St s.name,I6 s.num,I6 s.den,enL 3 enS s.segs]
structure Stop.ok (s:Stop):Prop where
 len:s.segs.els.length≤9223372036854775807
 segs:∀g∈s.segs.els,zqG g
def leO(a:Int):Option Int→Bool
 |some t=>decide (a≤t)
 |none=>false
def qU(l:List Seg):Nat→Option Int
 |0=>none
 |j+1=>(l[j]?).map Seg.hi
def uh(x:Place):List Seg→Option Int→Int
 | [],_=>0
 |g::r,p=>
  if min g.lo g.hi<x.low then 23 else if x.high<max g.lo g.hi then 23 else if g.hi<g.lo then 6
  else if leO g.lo p then 6
  else if yU x.ranks.els.length g.draws.els≠0 then yU x.ranks.els.length g.draws.els else uh x r (some g.hi)
theorem l62(k:Nat)(x:Place)(l:Sl Seg)(hl:l.els.length≤9223372036854775807)(hs:∀g∈l.els,zqG g):∀(r:List Seg) (i:Nat),l.els.drop i=r→
  zP (zfc (D (k+3)) (I6 (l.els.length:Int)) (enL 3 enS l) (I6 x.low) (I6 x.high) (enL 6 enR x.ranks)) [I6 (i:Int)] []=some (errX 1 (uh x r (qU l.els i))):=by
 intro r
 induction r with
 |nil=>
  intro i h;refine zz ?_;simp only[zfc,zx,zl,zb,xC (yb h),zq];rfl
 |cons g r ih=>
  intro i h;have h1:=yH h;have ea:pBin .add (I6 (i:Int)) (I6 1)=some (I6 ((i+1:Nat):Int)):=yS;have c:=t79 k x g.draws (hs g (Lz3 (yF h)));simp only[enP]at c;have body:zfc (D (k+3)) (I6 (l.els.length:Int)) (enL 3 enS l) (I6 x.low) (I6 x.high) (enL 6 enR x.ranks) [I6 (i:Int)] [] =
    some (if min g.lo g.hi<x.low then(.ret,[I6 23],[]) else if x.high<max g.lo g.hi then(.ret,[I6 23],[]) else if g.hi<g.lo then(.ret,[I6 6],[])
     else if leO g.lo (qU l.els i)=true then(.ret,[I6 6],[]) else if yU x.ranks.els.length g.draws.els≠0 then(.ret,[I6 (yU x.ranks.els.length g.draws.els)],[]) else(.normal,[I6 ((i+1:Nat):Int)],[])):=by
   simp only[zfc,zx,zl,zb,lt_i h1,zq,if_true,zR h,enS,xJ,wN,zq1,zq2,yC,c,yc,ea,decide_eq_true_eq,yf];have tail:(if (!(yU x.ranks.els.length g.draws.els==0))=true then some ((.ret,[I6 (yU x.ranks.els.length g.draws.els)],[]):PX) else some (.normal,[I6 ((i+1:Nat):Int)],[])) =
     some (if yU x.ranks.els.length g.draws.els≠0 then(.ret,[I6 (yU x.ranks.els.length g.draws.els)],[]) else(.normal,[I6 ((i+1:Nat):Int)],[])):=by
    by_cases hz:yU x.ranks.els.length g.draws.els=0<;>simp[hz]
   rw[tail];cases i with
   |zero=>
    have:¬((0:Int)<((0:Nat):Int)):=by omega
    simp only[this,if_false,Bool.false_eq_true,qU,leO]
    repeat (split<;>try rfl)
   |succ j=>
    obtain⟨q,hq⟩:∃q,l.els[j]? = some q:=⟨_,Lz5 (by omega)⟩
    have h2:(0:Int)<((j+1:Nat):Int):=by omega
    have es:pBin .sub (I6 ((j+1:Nat):Int)) (I6 1)=some (I6 (((j+1:Nat):Int)-1)):=zjj;have e1:((j+1:Nat):Int)-1=(j:Int):=by omega
    rw[e1]at es;have ix:pIdx 3 (enL 3 enS l) (I6 (j:Int))=some (enS q):=by rw[kC,hq];rfl
    simp only[qU,hq,Option.map_some,leO,h2,if_true,es,zb,ix,enS,wN,xJ,zaz,zq,decide_eq_true_eq]
    repeat (split<;>try rfl)
  have hp:qU l.els (i+1)=some g.hi:=by simp only[qU,yF h,Option.map_some]
  unfold uh;by_cases a1:min g.lo g.hi<x.low
  ·rw[if_pos a1]at body ⊢;rw[zE body];rfl
  rw[if_neg a1]at body ⊢;by_cases a2:x.high<max g.lo g.hi
  ·rw[if_pos a2]at body ⊢;rw[zE body];rfl
  rw[if_neg a2]at body ⊢;by_cases a3:g.hi<g.lo
  ·rw[if_pos a3]at body ⊢;rw[zE body];rfl
  rw[if_neg a3]at body ⊢;by_cases a4:leO g.lo (qU l.els i)=true
  ·rw[if_pos a4]at body ⊢;rw[zE body];rfl
  rw[if_neg a4]at body ⊢;by_cases a5:yU x.ranks.els.length g.draws.els≠0
  ·rw[if_pos a5]at body ⊢;rw[zE body];unfold errX;rw[if_pos a5]
  rw[if_neg a5]at body ⊢;rw[zS body,ih (i+1) (zN h),hp]
def vG(x:Place)(s:Stop):Int:=
 if uk x≠0 then uk x else if !isName s.name then 8 else if wy s.num s.den≠0 then wy s.num s.den
 else if s.segs.els.length=0 then 13 else if 12<s.segs.els.length then 4 else uh x s.segs.els none
theorem t62(k:Nat)(x:Place)(s:Stop)(hx:x.ok)(hs:s.ok):D (k+7) 62 [SA (enP x),SA (wD s)]=some (S1 (I6 (vG x s))):=by
 have c1:=t78 k x hx;have l:=l62 (k+3) x s.segs hs.len hs.segs s.segs.els 0 rfl;unfold enP at c1 ⊢;unfold wD;rw[D62];unfold P62 vG;simp only[c1,t35,t58,yc,yf,zb,zq,xa,zH,xx,yC];by_cases h1:uk x=0
 ·simp only[h1];cases isName s.name with
  |false=>rfl
  |true=>
   by_cases h2:wy s.num s.den=0
   ·simp only[h2];by_cases h3:s.segs.els.length=0
    ·simp[h3]
    ·have h4:¬((s.segs.els.length:Int)=0):=by omega
     by_cases h5:12<s.segs.els.length
     ·have h6:(12:Int)<(s.segs.els.length:Int):=by omega
      simp[h3,h5,h6]
     ·have h6:¬((12:Int)<(s.segs.els.length:Int)):=by omega
      rw[show (I6 0:DV)=I6 ((0:Nat):Int) from rfl,l,show qU s.segs.els 0=none from rfl]
      unfold errX;by_cases h7:uh x s.segs.els none=0
      ·simp[h3,h5,h6,h7]
      ·simp[h3,h5,h6,h7]
   ·simp[h2]
 ·simp[h1]
end Go.Proofs.Tryz.Kn
end
section
namespace Go.Proofs.Tryz.Kn
open Go Go.CE Go.PE
def eqB(a b:ByteArray):Bool:=a.data.toList==b.data.toList
def enN(s:ByteArray):List DV:=[St s,Bo true]
theorem zlk(a b:ByteArray):eqDS (.inl 2) (.one (St a)) (.one (St b))=some (eqB a b):=rfl
theorem jt(s:ByteArray):∀ns:List ByteArray,zdD (.inl 2) 1048576 (.one (St s)) (ns.map enN)=some (if ns.any (eqB s)=true then some (.one (Bo true)) else none)
 | []=>rfl
 |n::ns=>by
  have e:eqDS (.inl 2) (.one (St s)) (kD 1048576 (enN n))=some (eqB s n):=rfl;have v:vD 1048576 (enN n)=.one (Bo true):=rfl;rw[List.map_cons,zdD,e,v,jt s ns,List.any_cons];by_cases hq:eqB s n=true
  ·rw[hq];rfl
  ·rw[show eqB s n=false by simpa using hq];rfl
theorem kB(s:ByteArray):∀ns:List ByteArray,ns.any (eqB s)=false→putP (.inl 2) 1048576 (.one (St s)) [St s,Bo true] (ns.map enN)=some ((ns++[s]).map enN)
 | [],_=>rfl
 |n::ns,h=>by
  simp only[List.any_cons,Bool.or_eq_false_iff]at h;have e:eqDS (.inl 2) (.one (St s)) (kD 1048576 (enN n))=some (eqB s n):=rfl;simp only[List.map_cons,putP,e,h.1,kB s ns h.2];rfl
theorem zpl(b:Bool):dsO (lkD (.one (Bo false)) (if b=true then some (DS.one (Bo true)) else none))=Bo b:=by cases b<;>rfl
structure Cpl where
 name:ByteArray
 src:Int
 dst:Int
 shift:Int
 thr:Bool
def enC(c:Cpl):List DV:=[St c.name,I6 c.src,I6 c.dst,I6 c.shift,Bo c.thr]
def enK(k:Int×Int):List DV:=[I6 k.1,I6 k.2]
theorem t64(k:Nat)(x c:Cpl):D (k+1) 64 [SA (enC x),S1 (.fp (enC c) 0)]=some (S1 (Bo (eqB x.name c.name))):=by
 unfold enC;rw[D64];rfl
theorem l80(k:Nat)(c:Cpl)(l:Sl Cpl)(hl:l.els.length≤9223372036854775807):∀(r:List Cpl) (i:Nat),l.els.drop i=r→
  zP (zlO (D (k+1)) (I6 (l.els.length:Int)) (enL 5 enC l) (.fn 64 [enC c])) [I6 (i:Int)] []=some (found (wj (fun x=>eqB x.name c.name) r i)):=by
 intro r
 induction r with
 |nil=>
  intro i h;refine zz ?_;simp only[zlO,zx,zl,zb,xC (yb h),zq];rfl
 |cons x r ih=>
  intro i h;have h1:=yH h;have ea:pBin .add (I6 (i:Int)) (I6 1)=some (I6 ((i+1:Nat):Int)):=yS;have cx:appF (D (k+1)) (.fn 64 [enC c]) [SA [atD (enC x) 0,atD (enC x) 1,atD (enC x) 2,atD (enC x) 3,atD (enC x) 4]]=some (S1 (Bo (eqB x.name c.name))):=t64 k x c;have body:zlO (D (k+1)) (I6 (l.els.length:Int)) (enL 5 enC l) (.fn 64 [enC c]) [I6 (i:Int)] []=some (if eqB x.name c.name then(.ret,[I6 (i:Int)],[]) else(.normal,[I6 ((i+1:Nat):Int)],[])):=by
   simp only[zlO,zx,zl,zb,lt_i h1,zq,if_true,zR h,cx,yc,ea];cases eqB x.name c.name<;>rfl
  cases hc:eqB x.name c.name with
  |true=>rw[hc]at body;rw[zE body];simp[wj,hc,found]
  |false=>rw[hc]at body;rw[zS body,ih (i+1) (zN h)];simp[wj,hc]
theorem t63(k:Nat)(c:Cpl)(l:Sl Cpl)(hl:l.els.length≤9223372036854775807):D (k+3) 63 [S1 (enL 5 enC l),S1 (.fn 64 [enC c])]=some (S1 (Bo (l.els.any fun x=>eqB x.name c.name))):=by
 have e:D (k+2) 80 [S1 (enL 5 enC l),S1 (.fn 64 [enC c])]=some (S1 (I6 (match wj (fun x=>eqB x.name c.name) l.els 0 with|some i=>(i:Int)|none=>-1))):=by
  rw[D80];unfold P80;have:=l80 k c l hl l.els 0 rfl;simp only[zH,zb];rw[show (I6 0:DV)=I6 ((0:Nat):Int) from rfl,this]
  cases wj (fun x=>eqB x.name c.name) l.els 0<;>rfl
 rw[D63];unfold P63;rw[e,←wv (fun x=>eqB x.name c.name) l.els 0]
 cases wj (fun x=>eqB x.name c.name) l.els 0 with
 |none=>rfl
 |some i=>
  have:(0:Int)≤(i:Int):=by omega
  simp[this]
def zgl(n:Nat):List Cpl→List Cpl→Int
 |_,[]=>0
 |p,c::r=>
  if isName c.name=false then 8 else if p.any (fun x=>eqB x.name c.name)=true then 9 else if c.src<0 then 10 else if (n:Int)≤c.src then 10 else if c.dst<0 then 10 else if (n:Int)≤c.dst then 10
  else if c.shift < -127 then 3 else if 127<c.shift then 3 else if c.src=c.dst∧c.shift=0 then 7 else zgl n (p++[c]) r
def zhN(ks:List (Int×Int))(l:List Cpl):Int:=
 if 8<ks.length then 4 else if 40<l.length then 4 else if ks.any (fun k=>right k.1 k.2 != 0)=true then 23 else zgl ks.length [] l
theorem l39(k:Nat)(ks:Sl (Int×Int))(l:List Cpl)(hl:l.length≤9223372036854775807):∀(r:List Cpl) (i:Nat),l.drop i=r→
  zP (zfd (D (k+3)) (I6 (l.length:Int)) (enL 5 enC (some l)) (enL 2 enK ks)) [I6 (i:Int)] []=some (errX 2 (zgl ks.els.length (l.take i) r)):=by
 intro r
 induction r with
 |nil=>
  intro i h;refine zz ?_;simp only[zfd,zx,zl,zb,xC (yb h),zq];rfl
 |cons x r ih=>
  intro i h;have h1:=yH h;have ea:pBin .add (I6 (i:Int)) (I6 1)=some (I6 ((i+1:Nat):Int)):=yS;have ix:pIdx 5 (enL 5 enC (some l)) (I6 (i:Int))=some (enC x):=zR (v:=some l) h _;have sl:uE 5 (enL 5 enC (some l)) none (some (I6 (i:Int)))=some (enL 5 enC (some (l.take i))):=za0 (by omega)
  have c:=t63 k x (some (l.take i)) (by simp only[Sl.els,Option.getD_some,List.length_take];omega)
  have cn:=t35 (k+1) x.name;simp only[enC,yD]at c;have body:zfd (D (k+3)) (I6 (l.length:Int)) (enL 5 enC (some l)) (enL 2 enK ks) [I6 (i:Int)] [] =
    some (if isName x.name=false then(.ret,[I6 8],[]) else if (l.take i).any (fun y=>eqB y.name x.name)=true then(.ret,[I6 9],[]) else if x.src<0 then(.ret,[I6 10],[]) else if (ks.els.length:Int)≤x.src then(.ret,[I6 10],[])
     else if x.dst<0 then(.ret,[I6 10],[]) else if (ks.els.length:Int)≤x.dst then(.ret,[I6 10],[]) else if x.shift < -127 then(.ret,[I6 3],[]) else if 127<x.shift then(.ret,[I6 3],[])
     else if x.src=x.dst∧x.shift=0 then(.ret,[I6 7],[]) else(.normal,[I6 ((i+1:Nat):Int)],[])):=by
   simp only[zfd,zx,zl,zb,lt_i h1,zq,if_true,ix,enC,xJ,wN,zH,jh,yC,xx,sl,c,cn,yc,ztB,xa,ea,decide_eq_true_eq];cases isName x.name with
   |false=>simp
   |true=>
    simp only[Bool.not_true,Bool.false_eq_true,if_false,Bool.true_eq_false]
    repeat' (split<;>try rfl)
    all_goals (first|rfl|simp_all)
  have hn:l.take (i+1)=l.take i++[x]:=by rw[List.take_add_one,yF h];rfl
  unfold zgl;by_cases a0:isName x.name=false
  ·rw[if_pos a0]at body ⊢;rw[zE body];rfl
  rw[if_neg a0]at body ⊢;by_cases a1:(l.take i).any (fun y=>eqB y.name x.name)=true
  ·rw[if_pos a1]at body ⊢;rw[zE body];rfl
  rw[if_neg a1]at body ⊢;by_cases a2:x.src<0
  ·rw[if_pos a2]at body ⊢;rw[zE body];rfl
  rw[if_neg a2]at body ⊢;by_cases a3:(ks.els.length:Int)≤x.src
  ·rw[if_pos a3]at body ⊢;rw[zE body];rfl
  rw[if_neg a3]at body ⊢;by_cases a4:x.dst<0
  ·rw[if_pos a4]at body ⊢;rw[zE body];rfl
  rw[if_neg a4]at body ⊢;by_cases a5:(ks.els.length:Int)≤x.dst
  ·rw[if_pos a5]at body ⊢;rw[zE body];rfl
  rw[if_neg a5]at body ⊢;by_cases a6:x.shift < -127
  ·rw[if_pos a6]at body ⊢;rw[zE body];rfl
  rw[if_neg a6]at body ⊢;by_cases a7:127<x.shift
  ·rw[if_pos a7]at body ⊢;rw[zE body];rfl
  rw[if_neg a7]at body ⊢;by_cases a8:x.src=x.dst∧x.shift=0
  ·rw[if_pos a8]at body ⊢;rw[zE body];rfl
  rw[if_neg a8]at body ⊢;rw[zS body,ih (i+1) (zN h),hn]
theorem lk39(k:Nat)(ks:Sl (Int×Int))(hl:ks.els.length≤9223372036854775807):∀(r:List (Int×Int)) (i:Nat),ks.els.drop i=r→
  zP (zlV (D (k+1)) (I6 (ks.els.length:Int)) (enL 2 enK ks)) [I6 (i:Int)] []=some (if r.any (fun k=>right k.1 k.2 != 0)=true then(.ret,[I6 23],[]) else(.exit 0,[],[])):=by
 intro r
 induction r with
 |nil=>
  intro i h;refine zz ?_;simp only[zlV,zx,zl,zb,xC (yb h),zq];rfl
 |cons x r ih=>
  intro i h;have h1:=yH h;have ea:pBin .add (I6 (i:Int)) (I6 1)=some (I6 ((i+1:Nat):Int)):=yS;have c:=t61 k x.1 x.2;have body:zlV (D (k+1)) (I6 (ks.els.length:Int)) (enL 2 enK ks) [I6 (i:Int)] []=some (if right x.1 x.2=0 then(.normal,[I6 ((i+1:Nat):Int)],[]) else(.ret,[I6 23],[])):=by
   simp only[zlV,zx,zl,zb,lt_i h1,zq,if_true,zR h,enK,xJ,wN,c,yc,yf,ea];by_cases hz:right x.1 x.2=0<;>simp[hz]
  by_cases hc:right x.1 x.2=0
  ·rw[if_pos hc]at body;rw[zS body,ih (i+1) (zN h),List.any_cons,hc];rfl
  ·rw[if_neg hc]at body;rw[zE body,if_pos (by simp[hc])]
theorem t39(k:Nat)(ks:Sl (Int×Int))(l:Sl Cpl)(hk:ks.els.length≤9223372036854775807)(hl:l.els.length≤9223372036854775807):D (k+4) 39 [S1 (enL 2 enK ks),S1 (enL 5 enC l)]=some (S1 (I6 (zhN ks.els l.els))):=by
 rw[D39];unfold P39 zhN;have ck:=lk39 (k+2) ks hk ks.els 0 rfl;simp only[zH,zb,yC,zq];rw[show (I6 0:DV)=I6 ((0:Nat):Int) from rfl,ck]
 by_cases h1:8<ks.els.length
 ·have h2:(8:Int)<(ks.els.length:Int):=by omega
  simp[h1,h2]
 have h2:¬((8:Int)<(ks.els.length:Int)):=by omega
 by_cases h3:40<l.els.length
 ·have h4:(40:Int)<(l.els.length:Int):=by omega
  simp[h1,h2,h3,h4]
 have h4:¬((40:Int)<(l.els.length:Int)):=by omega
 simp only[h1,h2,h3,h4,decide_false,Bool.false_eq_true,if_false];by_cases h5:ks.els.any (fun k=>right k.1 k.2 != 0)=true
 ·rw[if_pos h5,if_pos h5];rfl
 rw[if_neg h5,if_neg h5];simp only[yn,Nat.beq_refl,cond_true];cases l with
 |none=>rw[zz (id:=2) (L':=[]) (M':=[]) (by rfl)];rfl
 |some l=>
  have:=l39 k ks l hl l 0 rfl;rw[show Sl.els (some l:Sl Cpl)=l from rfl,this,List.take_zero]
  unfold errX;by_cases h6:zgl ks.els.length [] l=0<;>simp[h6]
structure Divn where
 name:ByteArray
 pedal:Bool
 low:Int
 high:Int
 stops:Sl Stop
def enV(d:Divn):List DV:=[St d.name,Bo d.pedal,I6 d.low,I6 d.high,enL 4 wD d.stops]
structure Divn.ok (d:Divn):Prop where
 len:d.stops.els.length≤9223372036854775807
 stops:∀s∈d.stops.els,s.ok
structure Org where
 name:ByteArray
 ranks:Sl Rank
 divs:Sl Divn
 cpls:Sl Cpl
def enO(o:Org):List DV:=[St o.name,enL 6 enR o.ranks,enL 5 enV o.divs,enL 5 enC o.cpls]
structure Org.ok (o:Org):Prop where
 rl:o.ranks.els.length≤9223372036854775807
 ranks:∀r∈o.ranks.els,zcf r
 dl:o.divs.els.length≤9223372036854775807
 divs:∀d∈o.divs.els,d.ok
 cl:o.cpls.els.length≤9223372036854775807
def jM(x:Place):List Stop→List ByteArray→Int
 | [],_=>0
 |s::r,ns=>if vG x s≠0 then vG x s else if ns.any (eqB s.name)=true then 9 else jM x r (ns++[s.name])
def zik(id:Nat)(e:Int)(m:List OC):PX:=if e≠0 then(.ret,[I6 e],m) else(.exit id,[],m)
theorem l38(k:Nat)(x:Place)(hx:x.ok)(l:Sl Stop)(hl:l.els.length≤9223372036854775807)(hs:∀s∈l.els,s.ok):∀(r:List Stop) (i:Nat) (ns:List ByteArray),l.els.drop i=r→
  ∃m,zP (zlW (D (k+7)) (I6 (l.els.length:Int)) (enL 4 wD l) (enL 6 enR x.ranks) (I6 x.low) (I6 x.high)) [I6 (i:Int)] [some (ns.map enN)]=some (zik 0 (jM x r ns) m):=by
 intro r
 induction r with
 |nil=>
  intro i ns h;refine⟨[some (ns.map enN)],zz ?_⟩;simp only[zlW,zx,zl,zb,xC (yb h),zq];rfl
 |cons s r ih=>
  intro i ns h;have h1:=yH h;have ea:pBin .add (I6 (i:Int)) (I6 1)=some (I6 ((i+1:Nat):Int)):=yS;have c:=t62 k x s hx (hs s (Lz3 (yF h)));simp only[enP,wD]at c;have body:∃m,zlW (D (k+7)) (I6 (l.els.length:Int)) (enL 4 wD l) (enL 6 enR x.ranks) (I6 x.low) (I6 x.high) [I6 (i:Int)] [some (ns.map enN)] =
    some (if vG x s≠0 then(.ret,[I6 (vG x s)],m) else if ns.any (eqB s.name)=true then(.ret,[I6 9],m) else(.normal,[I6 ((i+1:Nat):Int)],[some ((ns++[s.name]).map enN)])):=by
   refine⟨[some (ns.map enN)],?_⟩;simp only[zlW,zx,z6,zl,zb,lt_i h1,zq,if_true,zR h,wD,xJ,wN,c,yc,yf,j0,zlk,jt,zpl,ea];by_cases hz:vG x s=0
   ·cases hb:ns.any (eqB s.name) with
    |true=>simp[hz]
    |false=>simp[hz,kB s.name ns hb]
   ·simp[hz]
  obtain⟨m,body⟩:=body;unfold jM;by_cases a1:vG x s≠0
  ·rw[if_pos a1]at body ⊢;exact⟨m,by rw[zE body];unfold zik;rw[if_pos a1]⟩
  rw[if_neg a1]at body ⊢;by_cases a2:ns.any (eqB s.name)=true
  ·rw[if_pos a2]at body ⊢;exact⟨m,by rw[zE body];rfl⟩
  rw[if_neg a2]at body ⊢;rw[zS body];exact ih (i+1) _ (zN h)
def jI(rs:Sl Rank)(d:Divn):Int:=if right d.low d.high≠0 then right d.low d.high else if 60<d.stops.els.length then 4 else jM ⟨rs,d.low,d.high⟩ d.stops.els []
theorem t38(k:Nat)(o:Org)(ho:o.ok)(d:Divn)(hd:d.ok):D (k+8) 38 [SA (enO o),SA (enV d)]=some (S1 (I6 (jI o.ranks d))):=by
 have hx:Place.ok ⟨o.ranks,d.low,d.high⟩:=⟨ho.rl,ho.ranks⟩;obtain⟨m,l⟩:=l38 k ⟨o.ranks,d.low,d.high⟩ hx d.stops hd.len hd.stops d.stops.els 0 [] rfl;have c:=t61 (k+6) d.low d.high;unfold enO enV;rw[D38];unfold P38 jI;simp only[c,yc,yf,zb,zq,zH,yC];by_cases h1:right d.low d.high=0
 ·by_cases h2:60<d.stops.els.length
  ·have h3:(60:Int)<(d.stops.els.length:Int):=by omega
   simp[h1,h2,h3]
  ·have h3:¬((60:Int)<(d.stops.els.length:Int)):=by omega
   simp only[List.map_nil]at l;rw[show (I6 0:DV)=I6 ((0:Nat):Int) from rfl,l]
   unfold zik;by_cases h4:jM ⟨o.ranks,d.low,d.high⟩ d.stops.els []=0<;>simp[h1,h2,h3,h4]
 ·simp[h1]
def uD:List Rank→List ByteArray→Int
 | [],_=>0
 |x::r,ns=>if yP x≠0 then yP x else if ns.any (eqB x.name)=true then 9 else uD r (ns++[x.name])
theorem l17(k:Nat)(l:Sl Rank)(hl:l.els.length≤9223372036854775807)(hs:∀s∈l.els,zcf s):∀(r:List Rank) (i:Nat) (ns:List ByteArray),l.els.drop i=r→
  ∃m,zP (zl3 (D (k+5)) (I6 (l.els.length:Int)) (enL 6 enR l)) [I6 (i:Int)] [some (ns.map enN)]=some (zik 1 (uD r ns) m):=by
 intro r
 induction r with
 |nil=>
  intro i ns h;refine⟨[some (ns.map enN)],zz ?_⟩;simp only[zl3,zx,zl,zb,xC (yb h),zq];rfl
 |cons s r ih=>
  intro i ns h;have h1:=yH h;have ea:pBin .add (I6 (i:Int)) (I6 1)=some (I6 ((i+1:Nat):Int)):=yS;have c:=t36 k s (hs s (Lz3 (yF h)));simp only[enR]at c;have body:∃m,zl3 (D (k+5)) (I6 (l.els.length:Int)) (enL 6 enR l) [I6 (i:Int)] [some (ns.map enN)] =
    some (if yP s≠0 then(.ret,[I6 (yP s)],m) else if ns.any (eqB s.name)=true then(.ret,[I6 9],m) else(.normal,[I6 ((i+1:Nat):Int)],[some ((ns++[s.name]).map enN)])):=by
   refine⟨[some (ns.map enN)],?_⟩;simp only[zl3,zx,z6,zl,zb,lt_i h1,zq,if_true,zR h,enR,xJ,wN,c,yc,yf,j0,zlk,jt,zpl,ea];by_cases hz:yP s=0
   ·cases hb:ns.any (eqB s.name) with
    |true=>simp[hz]
    |false=>simp[hz,kB s.name ns hb]
   ·simp[hz]
  obtain⟨m,body⟩:=body;unfold uD;by_cases a1:yP s≠0
  ·rw[if_pos a1]at body ⊢;exact⟨m,by rw[zE body];unfold zik;rw[if_pos a1]⟩
  rw[if_neg a1]at body ⊢;by_cases a2:ns.any (eqB s.name)=true
  ·rw[if_pos a2]at body ⊢;exact⟨m,by rw[zE body];rfl⟩
  rw[if_neg a2]at body ⊢;rw[zS body];exact ih (i+1) _ (zN h)
def qa(rs:Sl Rank):List Divn→List ByteArray→Int
 | [],_=>0
 |d::r,ns=>if isName d.name=false then 8 else if ns.any (eqB d.name)=true then 9 else if jI rs d≠0 then jI rs d else qa rs r (ns++[d.name])
def keyOf(d:Divn):Int×Int:=(d.low,d.high)
def grow{α:Type}(l:List α):Sl α:=match l with | []=>none|_=>some l
theorem zK{α:Type}(l:List α):(grow l).els=l:=by cases l<;>rfl
theorem yT{α:Type}(l:List α)(x:α):grow (l++[x])=some ((grow l).els++[x]):=by rw[zK];cases l<;>rfl
theorem zsY(k:Nat)(o:Org)(ho:o.ok)(hle:o.divs.els.length≤8):∀(r:List Divn) (i:Nat) (ns:List ByteArray),o.divs.els.drop i=r→
  ∃m,zP (zfi (D (k+8)) (I6 (o.divs.els.length:Int)) (enL 5 enV o.divs) (St o.name) (enL 6 enR o.ranks) (enL 5 enC o.cpls)) [I6 (i:Int)] [ocL enK (grow ((o.divs.els.take i).map keyOf)),some (ns.map enN)] =
   some (if qa o.ranks r ns≠0 then(.ret,[I6 (qa o.ranks r ns)],m) else(.exit 4,[],[ocL enK (grow (o.divs.els.map keyOf)),m.headD none])):=by
 intro r
 induction r with
 |nil=>
  intro i ns h;refine⟨[some (ns.map enN)],zz ?_⟩;have:o.divs.els.take i=o.divs.els:=List.take_of_length_le (yb h);simp only[zfi,zx,zl,zb,xC (yb h),zq,this];rfl
 |cons d r ih=>
  intro i ns h;have h1:=yH h;have ea:pBin .add (I6 (i:Int)) (I6 1)=some (I6 ((i+1:Nat):Int)):=yS;have c:=t38 k o ho d (ho.divs d (Lz3 (yF h)));have cn:=t35 (k+6) d.name;simp only[enO,enV]at c;have hn:o.divs.els.take (i+1)=o.divs.els.take i++[d]:=by rw[List.take_add_one,yF h];rfl
  have hlen:((grow ((o.divs.els.take i).map keyOf)).els).length=i:=by rw[zK];simp;omega
  have ef:fits 16 ((grow ((o.divs.els.take i).map keyOf)).els.length+1)=true:=xp (by decide) (by omega)
  have body:∃m,zfi (D (k+8)) (I6 (o.divs.els.length:Int)) (enL 5 enV o.divs) (St o.name) (enL 6 enR o.ranks) (enL 5 enC o.cpls) [I6 (i:Int)] [ocL enK (grow ((o.divs.els.take i).map keyOf)),some (ns.map enN)] =
    some (if isName d.name=false then(.ret,[I6 8],m) else if ns.any (eqB d.name)=true then(.ret,[I6 9],m) else if jI o.ranks d≠0 then(.ret,[I6 (jI o.ranks d)],m)
     else(.normal,[I6 ((i+1:Nat):Int)],[ocL enK (grow ((o.divs.els.take (i+1)).map keyOf)),some ((ns++[d.name]).map enN)])):=by
   rw[hn,List.map_append,List.map_cons,List.map_nil,yT];simp only[zfi,zx,z6,qY,zl,zb,lt_i h1,zq,if_true,zR h,enV,xJ,wN,c,cn,yc,xa,yf,j0,zlk,jt,zpl,ea,xD,List.length_cons,List.length_nil,ef,xP,yN];cases isName d.name with
   |false=>exact⟨[some (ns.map enN)],rfl⟩
   |true=>
    cases hb:ns.any (eqB d.name) with
    |true=>exact⟨[some (ns.map enN)],rfl⟩
    |false=>
     refine⟨[some ((ns++[d.name]).map enN)],?_⟩;have ee:=xA (f:=enK) (grow ((o.divs.els.take i).map keyOf)) (keyOf d);rw[←ee];simp only[kB d.name ns hb,zb];by_cases hz:jI o.ranks d=0
     ·simp[hz];rfl
     ·simp[hz]
  obtain⟨m,body⟩:=body;unfold qa;by_cases a0:isName d.name=false
  ·simp only[if_pos a0]at body ⊢;exact⟨m,by rw[zE body];rfl⟩
  simp only[if_neg a0]at body ⊢;by_cases a1:ns.any (eqB d.name)=true
  ·simp only[if_pos a1]at body ⊢;exact⟨m,by rw[zE body];rfl⟩
  simp only[if_neg a1]at body ⊢;by_cases a2:jI o.ranks d≠0
  ·simp only[if_pos a2]at body ⊢;exact⟨m,by rw[zE body]⟩
  simp only[if_neg a2]at body ⊢;rw[zS body];exact ih (i+1) _ (zN h)
def vR(o:Org):Int:=
 if isName o.name=false then 8 else if 60<o.ranks.els.length then 4 else if uD o.ranks.els []≠0 then uD o.ranks.els [] else if o.divs.els.length=0 then 13 else if 8<o.divs.els.length then 4
 else if qa o.ranks o.divs.els []≠0 then qa o.ranks o.divs.els [] else zhN (o.divs.els.map keyOf) o.cpls.els
theorem t17(k:Nat)(o:Org)(ho:o.ok):D (k+9) 17 [SA (enO o)]=some (S1 (I6 (vR o))):=by
 obtain⟨m,l⟩:=l17 (k+3) o.ranks ho.rl ho.ranks o.ranks.els 0 [] rfl;have cn:=t35 (k+6) o.name;unfold enO;rw[D17];unfold P17 vR;simp only[cn,yc,xa,yf,zb,zq,zH,yC,xx];cases isName o.name with
 |false=>rfl
 |true=>
  by_cases h1:60<o.ranks.els.length
  ·have h2:(60:Int)<(o.ranks.els.length:Int):=by omega
   simp[h1,h2]
  have h2:¬((60:Int)<(o.ranks.els.length:Int)):=by omega
  simp only[List.map_nil]at l;simp only[h1,h2,decide_false,Bool.not_true,Bool.false_eq_true,if_false,Bool.true_eq_false];rw[show (I6 0:DV)=I6 ((0:Nat):Int) from rfl,l]
  unfold zik;by_cases h3:uD o.ranks.els []≠0
  ·simp only[if_pos h3,zeH,zx]
  simp only[if_neg h3,yn,Nat.beq_refl,cond_true];by_cases h4:o.divs.els.length=0
  ·simp[h4]
  have h5:¬((o.divs.els.length:Int)=((0:Nat):Int)):=by omega
  by_cases h6:8<o.divs.els.length
  ·have h7:(8:Int)<(o.divs.els.length:Int):=by omega
   have h8:¬((o.divs.els.length:Int)=0):=by omega
   simp[h4,h6,h7,h8]
  have h7:¬((8:Int)<(o.divs.els.length:Int)):=by omega
  obtain⟨m2,l2⟩:=zsY k o ho (by omega) o.divs.els 0 [] rfl
  simp only[List.take_zero,List.map_nil]at l2;rw[show ocL enK (grow ([]:List (Int×Int)))=none from rfl]at l2
  have h9:((o.divs.els.length:Int)==0)=false:=by simpa using h4
  simp only[h4,h6,h7,h9,decide_false,Bool.false_eq_true,if_false];rw[l2];by_cases h8:qa o.ranks o.divs.els []≠0
  ·simp only[if_pos h8,zeH,zx]
  have cc:=t39 (k+4) (grow (o.divs.els.map keyOf)) o.cpls (by rw[zK];simp;omega) ho.cl
  rw[zK]at cc;simp only[if_neg h8,yn,z6,qx,Nat.beq_refl,cond_true,cc,zqh]
end Go.Proofs.Tryz.Kn
end
section
namespace Go.Proofs.Tryz.Kn
open Go Go.CE Go.PE
structure RPl where
 tone:Nat
 feet:Nat
 first:Int
 pipes:Nat
 w0:Nat
 w1:Nat
 w2:Nat
 w3:Nat
 w4:Nat
structure RPl.ok (r:RPl):Prop where
 tone:r.tone<256
 feet:r.feet<256
 f1:-128≤r.first
 f2:r.first≤127
 pipes:r.pipes<256
 w0:r.w0<256
 w1:r.w1<256
 w2:r.w2<256
 w3:r.w3<256
 w4:r.w4<256
def zdM(r:RPl):List DV:=[U8 (r.tone:Int),U8 (r.feet:Int),.int .i8 r.first,U8 (r.pipes:Int),U8 (r.w0:Int),U8 (r.w1:Int),U8 (r.w2:Int),U8 (r.w3:Int),U8 (r.w4:Int)]
structure Pul where
 rank:Nat
 feet:Nat
 kind:Nat
 at_:Nat
structure Pul.ok (x:Pul):Prop where
 rank:x.rank<256
 feet:x.feet<256
 kind:x.kind<256
 at_:x.at_<256
def zgf(x:Pul):List DV:=[U8 (x.rank:Int),U8 (x.feet:Int),U8 (x.kind:Int),U8 (x.at_:Int)]
structure Boa where
 low:Nat
 keys:Nat
 pedal:Bool
 stops:Sl Pul
structure Boa.ok (b:Boa):Prop where
 low:b.low<256
 keys:b.keys<256
 len:b.stops.els.length≤9223372036854775807
 stops:∀x∈b.stops.els,x.ok
def u4(b:Boa):List DV:=[U8 (b.low:Int),U8 (b.keys:Int),Bo b.pedal,enL 4 zgf b.stops]
structure Lnk where
 src:Nat
 dst:Nat
 shift:Int
 thr:Bool
structure Lnk.ok (l:Lnk):Prop where
 src:l.src<256
 dst:l.dst<256
 s1:-128≤l.shift
 s2:l.shift≤127
def ziW(l:Lnk):List DV:=[U8 (l.src:Int),U8 (l.dst:Int),.int .i8 l.shift,Bo l.thr]
structure Pln where
 ranks:Sl RPl
 divs:Sl Boa
 cpls:Sl Lnk
structure Pln.ok (p:Pln):Prop where
 rl:p.ranks.els.length≤9223372036854775807
 ranks:∀x∈p.ranks.els,x.ok
 dl:p.divs.els.length≤9223372036854775807
 divs:∀x∈p.divs.els,x.ok
 cl:p.cpls.els.length≤9223372036854775807
 cpls:∀x∈p.cpls.els,x.ok
def zdN(p:Pln):List DV:=[enL 9 zdM p.ranks,enL 4 u4 p.divs,enL 4 ziW p.cpls]
def ziU(l:List Boa):Bool:=l.all fun b=>decide (b.stops.els.length≤3)
def zdC(p:Pln):Bool:=decide (1≤p.ranks.els.length)&&decide (p.ranks.els.length≤3)&&decide (1≤p.divs.els.length)&&decide (p.divs.els.length≤3)&&decide (p.cpls.els.length≤3)&&ziU p.divs.els
theorem l6(l:Sl Boa)(hl:l.els.length≤9223372036854775807):∀(r:List Boa) (i:Nat),l.els.drop i=r→
  zP (zlU (enL 4 u4 l)) [I6 (i:Int)] []=some (if ziU r then(.exit 0,[],[]) else(.ret,[Bo false],[])):=by
 intro r
 induction r with
 |nil=>
  intro i h;refine zz ?_;simp only[zlU,zx,zH,zl,zb,xC (yb h),zq];rfl
 |cons x r ih=>
  intro i h;have h1:=yH h;have ea:pBin .add (I6 (i:Int)) (I6 1)=some (I6 ((i+1:Nat):Int)):=yS;have body:zlU (enL 4 u4 l) [I6 (i:Int)] []=some (if x.stops.els.length≤3 then(.normal,[I6 ((i+1:Nat):Int)],[]) else(.ret,[Bo false],[])):=by
   simp only[zlU,zx,zH,zl,zb,lt_i h1,zq,if_true,zR h,u4,xJ,wN,yC,ea];by_cases hz:x.stops.els.length≤3
   ·have:¬((3:Int)<(x.stops.els.length:Int)):=by omega
    simp[hz,this]
   ·have:(3:Int)<(x.stops.els.length:Int):=by omega
    simp[hz,this]
  by_cases hc:x.stops.els.length≤3
  ·rw[if_pos hc]at body;rw[zS body,ih (i+1) (zN h)];simp[ziU,hc]
  ·rw[if_neg hc]at body;rw[zE body];simp[ziU,hc]
theorem t6(k:Nat)(p:Pln)(hp:p.ok):D (k+1) 6 [SA (zdN p)]=some (S1 (Bo (zdC p))):=by
 have l:=l6 p.divs hp.dl p.divs.els 0 rfl;unfold zdN;rw[D6];unfold P6 zdC;simp only[zH,zb,zl,yC,zq,decide_eq_true_eq];rw[show (I6 0:DV)=I6 ((0:Nat):Int) from rfl,l]
 by_cases h1:1≤p.ranks.els.length
 ·have g1:¬((p.ranks.els.length:Int)<1):=by omega
  by_cases h2:p.ranks.els.length≤3
  ·have g2:¬((3:Int)<(p.ranks.els.length:Int)):=by omega
   by_cases h3:1≤p.divs.els.length
   ·have g3:¬((p.divs.els.length:Int)<1):=by omega
    by_cases h4:p.divs.els.length≤3
    ·have g4:¬((3:Int)<(p.divs.els.length:Int)):=by omega
     by_cases h5:p.cpls.els.length≤3
     ·have g5:¬((3:Int)<(p.cpls.els.length:Int)):=by omega
      simp only[if_neg g1,if_neg g2,if_neg g3,if_neg g4,if_neg g5,decide_eq_true h1,decide_eq_true h2,decide_eq_true h3,decide_eq_true h4,decide_eq_true h5,Bool.true_and];cases ziU p.divs.els<;>rfl
     ·have g5:(3:Int)<(p.cpls.els.length:Int):=by omega
      simp[g1,g2,g3,g4,g5,h5]
    ·have g4:(3:Int)<(p.divs.els.length:Int):=by omega
     simp[g1,g2,g3,g4,h4]
   ·have g3:(p.divs.els.length:Int)<1:=by omega
    simp[g1,g2,g3,h3]
  ·have g2:(3:Int)<(p.ranks.els.length:Int):=by omega
   simp[g1,g2,h2]
 ·have g1:(p.ranks.els.length:Int)<1:=by omega
  simp[g1,h1]
theorem zaC{α:Type}(f:α→List DV)(l:List α)(i:Nat):nthO (some (l.map f)) i=(l[i]?).map f:=by
 show (l.map f)[i]? = _;rw[Lz6]
theorem t54(k:Nat)(n:Nat):D (k+1) 54 [S1 (U8 (n:Int))]=some (SA (enF (fA n))):=by
 rw[D54];unfold P54;have e:pBin .rem (U8 (n:Int)) (U8 16)=some (U8 ((n % 16:Nat):Int)):=remN (b:=16) (by decide)
 have i:jy (some (feetA.map enF)) (U8 ((n % 16:Nat):Int))=some (n % 16):=zax (by rw[List.length_map];exact Nat.mod_lt _ (by decide))
 have j:nthO (some (feetA.map enF)) (n % 16)=some (enF (fA n)):=by rw[zaC,zoe];rfl
 rw[e,zb];refine (congrArg (za · _) i).trans ?_;rw[zb];refine (congrArg (za · _) j).trans ?_;rfl
theorem t55(k:Nat)(n:Nat):D (k+1) 55 [S1 (U8 (n:Int))]=some (SA (enF (fB n))):=by
 rw[D55];unfold P55;have e:pBin .rem (U8 (n:Int)) (U8 6)=some (U8 ((n % 6:Nat):Int)):=remN (b:=6) (by decide)
 have i:jy (some (feetB.map enF)) (U8 ((n % 6:Nat):Int))=some (n % 6):=zax (by rw[List.length_map];exact Nat.mod_lt _ (by decide))
 have j:nthO (some (feetB.map enF)) (n % 6)=some (enF (fB n)):=by rw[zaC,zoc];rfl
 rw[e,zb];refine (congrArg (za · _) i).trans ?_;rw[zb];refine (congrArg (za · _) j).trans ?_;rfl
def pre(c:UInt8)(i:Nat):ByteArray:=⟨#[c]⟩++zaW [48+(i:Int)] ByteArray.empty
theorem zda(c:UInt8)(i:Nat):pStr .add (.str ⟨#[c]⟩) (.str (zaW [48+(i:Int)] ByteArray.empty))=some (St (pre c i)):=rfl
theorem zaA(i:Nat):pB2s (.lst 1 [[U8 (48+(i:Int))]])=some (St (zaW [48+(i:Int)] ByteArray.empty)):=rfl
def zh7:Nat→ByteArray
 |0=>⟨#[79,112,101,110]⟩
 |1=>⟨#[70,108,117,116,101]⟩
 |_=>⟨#[82,101,101,100]⟩
def wAt(r:RPl):Nat→Nat
 |0=>r.w0
 |1=>r.w1
 |2=>r.w2
 |3=>r.w3
 |_=>r.w4
def uC(r:RPl)(n:Nat):List Int:=(List.range n).map fun k=>((wAt r (k % 5):Nat):Int)
theorem zbY(r:RPl)(n:Nat):uC r (n+1)=uC r n++[((wAt r (n % 5):Nat):Int)]:=by unfold uC;rw[List.range_succ,List.map_append];rfl
theorem zaJ(r:RPl)(n:Nat):(uC r n).length=n:=by simp[uC]
theorem znN{r:RPl}(h:r.ok)(i:Nat):wAt r i<256:=by
 unfold wAt;split
 ·exact h.w0
 ·exact h.w1
 ·exact h.w2
 ·exact h.w3
 ·exact h.w4
def mk14(i:Nat)(r:RPl):Rank:=⟨pre 82 (i % 10),zh7 (r.tone % 3),(fA r.feet).1,(fA r.feet).2,r.first,some (uC r (1+r.pipes % 25))⟩
theorem l27(r:RPl)(hr:r.ok)(c0 c1 c2 c3 c4:DV):∀(m j:Nat),j+m=1+r.pipes % 25→
  zP (zfh (U8 (r.pipes:Int)) (U8 (r.w0:Int)) (U8 (r.w1:Int)) (U8 (r.w2:Int)) (U8 (r.w3:Int)) (U8 (r.w4:Int))) [I6 (j:Int),c0,c1,c2,c3,c4] [ocL enW (grow (uC r j))] =
   some (.exit 0,[c0,c1,c2,c3,c4],[ocL enW (grow (uC r (1+r.pipes % 25)))]):=by
 have e1:pBin .rem (U8 (r.pipes:Int)) (U8 25)=some (U8 ((r.pipes % 25:Nat):Int)):=remN (b:=25) (by decide)
 have hm:r.pipes % 25<25:=Nat.mod_lt _ (by omega)
 have e2:yg .i64 (U8 ((r.pipes % 25:Nat):Int))=some (I6 ((r.pipes % 25:Nat):Int)):=jJ;have e3:pBin .add (I6 1) (I6 ((r.pipes % 25:Nat):Int))=some (I6 ((1+r.pipes % 25:Nat):Int)):=by
  rw[show ((1+r.pipes % 25:Nat):Int)=1+((r.pipes % 25:Nat):Int) by omega]
  exact yS
 intro m
 induction m with
 |zero=>
  intro j hj;refine zz ?_;have hj':j=1+r.pipes % 25:=by omega
  subst hj';have:decide (((1+r.pipes % 25:Nat):Int)<((1+r.pipes % 25:Nat):Int))=false:=xC (by omega)
  simp only[zfh,e1,e2,e3,zb,zx,xb,zl,this,zq];rfl
 |succ m ih=>
  intro j hj;have hlt:decide ((j:Int)<((1+r.pipes % 25:Nat):Int))=true:=lt_i (by omega)
  have ea:pBin .add (I6 (j:Int)) (I6 1)=some (I6 ((j+1:Nat):Int)):=yS;have eb:pBin .rem (I6 (j:Int)) (I6 5)=some (I6 ((j % 5:Nat):Int)):=remN (b:=5) (by decide)
  have h5:j % 5<5:=Nat.mod_lt _ (by omega)
  have en:jz 5 (I6 ((j % 5:Nat):Int))=some (j % 5):=zg6 h5;have hw:=znN hr (j % 5);have ew:atD [U8 (r.w0:Int),U8 (r.w1:Int),U8 (r.w2:Int),U8 (r.w3:Int),U8 (r.w4:Int)] (j % 5)=U8 ((wAt r (j % 5):Nat):Int):=by
   have:j % 5=0∨j % 5=1∨j % 5=2∨j % 5=3∨j % 5=4:=by omega
   rcases this with h|h|h|h|h<;>rw[h]<;>rfl
  have ec:yg .i64 (U8 ((wAt r (j % 5):Nat):Int))=some (I6 ((wAt r (j % 5):Nat):Int)):=jJ;have ef:fits 8 ((grow (uC r j)).els.length+1)=true:=xp (by decide) (by rw[zK,zaJ];omega)
  have body:zfh (U8 (r.pipes:Int)) (U8 (r.w0:Int)) (U8 (r.w1:Int)) (U8 (r.w2:Int)) (U8 (r.w3:Int)) (U8 (r.w4:Int)) [I6 (j:Int),c0,c1,c2,c3,c4] [ocL enW (grow (uC r j))] =
    some (.normal,[I6 ((j+1:Nat):Int),c0,c1,c2,c3,c4],[ocL enW (grow (uC r (j+1)))]):=by
   rw[zbY,yT];simp only[zfh,e1,e2,e3,zb,zx,xb,zl,hlt,zq,if_true,eb,en,ew,ec,z6,xD,List.length_cons,List.length_nil,ef,xP,ea,yN];rw[xA (f:=enW)]
  rw[zS body,ih (j+1) (by omega)]
theorem t27(k:Nat)(i:Nat)(hi:i<10)(r:RPl)(hr:r.ok):D (k+2) 27 [SA (zdM r),S1 (I6 (i:Int))]=some (SA (enR (mk14 i r))):=by
 unfold zdM;rw[D27];unfold P27;have e1:pBin .rem (I6 (i:Int)) (I6 10)=some (I6 ((i % 10:Nat):Int)):=remN (b:=10) (by decide)
 have h10:i % 10<10:=Nat.mod_lt _ (by decide)
 have e2:pBin .add (I6 48) (I6 ((i % 10:Nat):Int))=some (I6 (48+((i % 10:Nat):Int))):=yS;have e3:yg .u8 (I6 (48+((i % 10:Nat):Int)))=some (U8 (48+((i % 10:Nat):Int))):=by
  show some (DV.int .u8 (wp .u8 (48+((i % 10:Nat):Int))))=_;rw[zmb];congr 2;omega
 have e4:pBin .rem (U8 (r.tone:Int)) (U8 3)=some (U8 ((r.tone % 3:Nat):Int)):=remN (b:=3) (by decide)
 have e5:yg .i64 (.int .i8 r.first)=some (I6 r.first):=by
  have:=hr.f1;have:=hr.f2;exact jJ
 have l:=l27 r hr (St (pre 82 (i % 10))) (St (zh7 (r.tone % 3))) (I6 (fA r.feet).1) (I6 (fA r.feet).2) (I6 r.first) (1+r.pipes % 25) 0 (by omega)
 rw[show ocL enW (grow (uC r 0))=none from rfl]at l
 have hg:grow (uC r (1+r.pipes % 25))=some (uC r (1+r.pipes % 25)):=by
  rw[show 1+r.pipes % 25=r.pipes % 25+1 by omega,zbY,yT,zK]
 rw[hg]at l;have h3:r.tone % 3=0∨r.tone % 3=1∨r.tone % 3=2:=by omega
 have et:za (jy (some [[(.str ⟨#[79,112,101,110]⟩)],[(.str ⟨#[70,108,117,116,101]⟩)],[(.str ⟨#[82,101,101,100]⟩)]]) (U8 ((r.tone % 3:Nat):Int))) (fun n6=>nthO (some [[(.str ⟨#[79,112,101,110]⟩)],[(.str ⟨#[70,108,117,116,101]⟩)],[(.str ⟨#[82,101,101,100]⟩)]]) n6)=some [St (zh7 (r.tone % 3))]:=by
  rcases h3 with h|h|h<;>rw[h]<;>rfl
 have eu:∀{β:Type} (K:List DV→Option β),za (jy (some [[(.str ⟨#[79,112,101,110]⟩)],[(.str ⟨#[70,108,117,116,101]⟩)],[(.str ⟨#[82,101,101,100]⟩)]]) (U8 ((r.tone % 3:Nat):Int))) (fun n6=>za (nthO (some [[(.str ⟨#[79,112,101,110]⟩)],[(.str ⟨#[70,108,117,116,101]⟩)],[(.str ⟨#[82,101,101,100]⟩)]]) n6) K)=K [St (zh7 (r.tone % 3))]:=by
  intro β K;rcases h3 with h|h|h<;>rw[h]<;>rfl
 have c:=t54 k r.feet;simp only[e1,e2,e3,e4,zb,zaA,zda];rw[eu];rw[c];unfold enF;rw[ztA (show[I6 (fA r.feet).1,I6 (fA r.feet).2].length=2 from rfl)]
 simp only[e5,zb,xJ,wN];rw[show (I6 0:DV)=I6 ((0:Nat):Int) from rfl,l]
 rfl
end Go.Proofs.Tryz.Kn
end
section
namespace Go.Proofs.Tryz.Kn
open Go Go.CE Go.PE
theorem bT2{β:Type}(a b:DV)(K:List DS→Option β):bT [none,none] (some (.tup [.one a,.one b])) K=K [.one a,.one b]:=rfl
def rkAt(rs:List Rank)(i:Nat):Rank:=(rs[i]?).getD ⟨ByteArray.empty,ByteArray.empty,8,1,0,none⟩
theorem zc2{rs:List Rank}{i:Nat}(h:i<rs.length):rs[i]? = some (rkAt rs i):=by
 unfold rkAt;rw[Lz5 h];rfl
theorem km{rs:List Rank}{i:Nat}(h:i<rs.length):rkAt rs i∈rs:=Lz3 (zc2 h)
def xw(low high:Int)(n:Int)(sh:Int)(m:Int)(sh2:Int)(at_:Int):Nat→List Seg
 |2=>[⟨low,high,some [⟨n,sh⟩,⟨n,sh+7⟩]⟩]
 |3=>if low<at_ then[⟨low,at_-1,some [⟨n,sh⟩]⟩,⟨at_,high,some [⟨m,sh2⟩]⟩] else[⟨at_,high,some [⟨m,sh2⟩]⟩]
 |4=>if low<at_ then[⟨low,at_-1,some [⟨n,sh⟩]⟩,⟨at_,high,some [⟨n,sh-12⟩]⟩] else[⟨at_,high,some [⟨n,sh-12⟩]⟩]
 |5=>[⟨at_,high,some [⟨n,sh⟩]⟩]
 |_=>[⟨low,high,some [⟨n,sh⟩]⟩]
def rkF(r:Rank):Int×Int:=(r.num,r.den)
def jF(rs:List Rank)(low high:Int)(i:Nat)(x:Pul):Stop:=
 ⟨pre 83 i, (fB x.feet).1, (fB x.feet).2, some (xw low high ((x.rank % rs.length : Nat) : Int) (shf (fB x.feet) (rkF (rkAt rs (x.rank % rs.length)))) (((x.rank % rs.length + 1) % rs.length : Nat) : Int)
  (shf (fB x.feet) (rkF (rkAt rs ((x.rank % rs.length+1) % rs.length)))) (low+((x.at_:Int).tmod (high-low+1))) (x.kind % 6))⟩
theorem t28(k:Nat)(rs:List Rank)(hl:0<rs.length)(hl3:rs.length≤1000)(hf:∀r∈rs,rkF r∈feetA)(low high:Int)(h0:0≤low)(h1:low≤high)(h2:high≤1000)(x:Pul)(hx:x.ok)(i:Nat)(hi:i<10):
  D (k+6) 28 [S1 (enL 6 enR (some rs)),SA [I6 low,I6 high],SA (zgf x),S1 (I6 (i:Int))]=some (SA (wD (jF rs low high i x))):=by
 unfold zgf;rw[D28];unfold P28 jF;have hn:x.rank % rs.length<rs.length:=Nat.mod_lt _ hl;have hm:(x.rank % rs.length+1) % rs.length<rs.length:=Nat.mod_lt _ hl;generalize hN:x.rank % rs.length=n at hn hm;generalize hM:(n+1) % rs.length=m at hm;have e0:yg .i64 (U8 (x.rank:Int))=some (I6 (x.rank:Int)):=by have:=hx.rank;exact jJ
 have e1:pBin .rem (I6 (x.rank:Int)) (I6 (rs.length:Int))=some (I6 (n:Int)):=by rw[←hN];exact remN (by omega)
 have e2:pBin .add (I6 48) (I6 (i:Int))=some (I6 (48+(i:Int))):=yS;have e3:yg .u8 (I6 (48+(i:Int)))=some (U8 (48+(i:Int))):=by
  show some (DV.int .u8 (wp .u8 (48+(i:Int))))=_;rw[zmb];congr 2;omega
 have c1:=t55 (k+4) x.feet;have ix:pIdx 6 (enL 6 enR (some rs)) (I6 (n:Int))=some (enR (rkAt rs n)):=by rw[kC,yD,zc2 hn];rfl
 have ix2:pIdx 6 (enL 6 enR (some rs)) (I6 (m:Int))=some (enR (rkAt rs m)):=by rw[kC,yD,zc2 hm];rfl
 have s1:=t56 k (fB x.feet) (rkF (rkAt rs n)) (zcC _) (hf _ (km hn));have s2:=t56 k (fB x.feet) (rkF (rkAt rs m)) (zcC _) (hf _ (km hm));have b1:=zjv (fB x.feet) (rkF (rkAt rs n)) (zcC _) (hf _ (km hn));generalize shf (fB x.feet) (rkF (rkAt rs n))=sh at s1 b1 ⊢;generalize shf (fB x.feet) (rkF (rkAt rs m))=sh2 at s2 ⊢;unfold rkF enF at s1 s2;unfold enF at c1;generalize (fB x.feet).1=u at c1 s1 s2 ⊢;generalize (fB x.feet).2=v at c1 s1 s2 ⊢;simp only at s1 s2;have e4:yg .i64 (U8 (x.at_:Int))=some (I6 (x.at_:Int)):=by have:=hx.at_;exact jJ
 have e5:pBin .sub (I6 high) (I6 low)=some (I6 (high-low)):=zjj;have e6:pBin .add (I6 (high-low)) (I6 1)=some (I6 (high-low+1)):=yS;have e7:pBin .rem (I6 (x.at_:Int)) (I6 (high-low+1))=some (I6 ((x.at_:Int).tmod (high-low+1))):=zay _ _ _ (by omega)
 have hq:0≤(x.at_:Int).tmod (high-low+1)∧(x.at_:Int).tmod (high-low+1)<high-low+1:=⟨Int.tmod_nonneg _ (by omega),Int.tmod_lt_of_pos _ (by omega)⟩
 generalize (x.at_:Int).tmod (high-low+1)=q at e7 hq ⊢;have e8:pBin .add (I6 low) (I6 q)=some (I6 (low+q)):=yS;have e9:pBin .rem (U8 (x.kind:Int)) (U8 6)=some (U8 ((x.kind % 6:Nat):Int)):=remN (b:=6) (by decide)
 have e10:pBin .add (I6 sh) (I6 7)=some (I6 (sh+7)):=yS;have e11:pBin .sub (I6 sh) (I6 12)=some (I6 (sh-12)):=zjj;have e12:pBin .add (I6 (n:Int)) (I6 1)=some (I6 ((n+1:Nat):Int)):=yS;have e13:pBin .rem (I6 ((n+1:Nat):Int)) (I6 (rs.length:Int))=some (I6 (m:Int)):=by rw[←hM];exact remN (by omega)
 have e14:pBin .sub (I6 (low+q)) (I6 1)=some (I6 (low+q-1)):=zjj;have f1:fits 40 1=true:=by decide
 have f2:fits 40 2=true:=by decide
 have hk:x.kind % 6<6:=Nat.mod_lt _ (by decide)
 generalize x.kind % 6=kd at e9 hk ⊢;have b2:∀{β:Type} (a b:DV) (K:List DV→Option β),bA 2 (some (SA [a,b])) K=K [a,b]:=fun _ _ _=>rfl
 simp only[e0,zb,zH,yD,e1,e2,e3,zaA,zda,c1,b2,xJ,wN,ix,enR,s1,bT2,zcH,qD,e4,e5,e6,e7,e8,e9,xx,yC,zq,e10,e11,e12,e13,ix2,s2,e14];have hkd:kd=0∨kd=1∨kd=2∨kd=3∨kd=4∨kd=5:=by omega
 rcases hkd with h|h|h|h|h|h<;>subst h
 ·rfl
 ·rfl
 ·rfl
 ·by_cases hb:low<low+q
  ·simp only[xw,if_pos hb,decide_eq_true hb];simp[f1,f2];rfl
  ·simp only[xw,if_neg hb,decide_eq_false hb];simp[f1];rfl
 ·by_cases hb:low<low+q
  ·simp only[xw,if_pos hb,decide_eq_true hb];simp[f1,f2];rfl
  ·simp only[xw,if_neg hb,decide_eq_false hb];simp[f1];rfl
 ·rfl
def wJ:Nat→List RPl→List Rank
 |_,[]=>[]
 |i,r::l=>mk14 i r::wJ (i+1) l
def wh(rs:List Rank)(low high:Int):Nat→List Pul→List Stop
 |_,[]=>[]
 |i,x::l=>jF rs low high i x::wh rs low high (i+1) l
def lowB(b:Boa):Int:=36+((b.low % 12:Nat):Int)
def zbp(b:Boa):Int:=lowB b+((b.keys % 9:Nat):Int)
def zdn(rs:List Rank)(i:Nat)(b:Boa):Divn:=⟨pre 68 i,b.pedal,lowB b,zbp b,grow (wh rs (lowB b) (zbp b) 0 b.stops.els)⟩
def vt(rs:List Rank):Nat→List Boa→List Divn
 |_,[]=>[]
 |i,b::l=>zdn rs i b::vt rs (i+1) l
def jT(n:Nat)(i:Nat)(l:Lnk):Cpl:=
 ⟨pre 67 i,((l.src % n:Nat):Int),((l.dst % n:Nat):Int),if ((l.src % n:Nat):Int)=((l.dst % n:Nat):Int)∧l.shift.tmod 25=0 then 12 else l.shift.tmod 25,l.thr⟩
def kK(n:Nat):Nat→List Lnk→List Cpl
 |_,[]=>[]
 |i,c::l=>jT n i c::kK n (i+1) l
def zcj:ByteArray:=⟨#[79,114,103,97,110]⟩
def mk18(p:Pln):Org:=⟨zcj,grow (wJ 0 p.ranks.els),grow (vt (wJ 0 p.ranks.els) 0 p.divs.els),grow (kK p.divs.els.length 0 p.cpls.els)⟩
theorem kJ:∀(l:List RPl) (i:Nat),(wJ i l).length=l.length
 | [],_=>rfl
 |_::l,i=>by simp[wJ,kJ l]
theorem qv:∀(l:List RPl) (i:Nat),∀r∈wJ i l,rkF r∈feetA
 | [],_,_,h=>by cases h
 |x::l,i,r,h=>by
  rcases List.mem_cons.1 h with rfl|h
  ·exact zod x.feet
  ·exact qv l _ r h
theorem l2_7(k:Nat)(l:Sl RPl)(hl:l.els.length≤3)(hr:∀x∈l.els,x.ok)(nm:DV):∀(r:List RPl) (i:Nat) (acc:List Rank),l.els.drop i=r→acc.length=i→
  zP (F7_2 (D (k+2)) (enL 9 zdM l)) [I6 (i:Int),nm] [ocL enR (grow acc),none,none]=some (.exit 0,[nm],[ocL enR (grow (acc++wJ i r)),none,none]):=by
 intro r
 induction r with
 |nil=>
  intro i acc h _;refine zz ?_;simp only[F7_2,zx,xb,z6,qY,zH,zl,zb,xC (yb h),zq,wJ,List.append_nil];rfl
 |cons x r ih=>
  intro i acc h ha;have h1:=yH h;have ea:pBin .add (I6 (i:Int)) (I6 1)=some (I6 ((i+1:Nat):Int)):=yS;have c:=t27 k i (by omega) x (hr x (Lz3 (yF h)))
  have ef:fits 80 ((grow acc).els.length+1)=true:=xp (by decide) (by rw[zK];omega)
  have b6:∀{β:Type} (K:List DV→Option β),bA 6 (some (SA (enR (mk14 i x)))) K=K (enR (mk14 i x)):=fun _=>rfl
  have body:F7_2 (D (k+2)) (enL 9 zdM l) [I6 (i:Int),nm] [ocL enR (grow acc),none,none]=some (.normal,[I6 ((i+1:Nat):Int),nm],[ocL enR (grow (acc++[mk14 i x])),none,none]):=by
   rw[yT];unfold zdM at c;simp only[F7_2,zx,xb,z6,qY,zH,zl,zb,lt_i h1,zq,if_true,zR h,zdM,xJ,wN,c,b6,xD,List.length_cons,List.length_nil,ef,xP,ea,yN];rw[←xA (f:=enR)];rfl
  rw[zS body,ih (i+1) _ (zN h) (by simp[ha])]
  simp[wJ]
theorem zsZ(k:Nat)(rs:List Rank)(hl:0<rs.length)(hl3:rs.length≤1000)(hf:∀r∈rs,rkF r∈feetA)(b:Boa)(hb:b.ok)(h3:b.stops.els.length≤3)(low high:Int)(h0:0≤low)(h1:low≤high)(h2:high≤1000)(d0 d1 c0 c1:DV):
  ∀(r:List Pul) (i:Nat) (acc:List Stop),b.stops.els.drop i=r→acc.length=i→
  zP (zlQ (D (k+6)) (u4 b) [d0,d1,enL 6 enR (some rs)]) [I6 (i:Int),c0,c1,I6 low,I6 high] [ocL wD (grow acc)]=some (.exit 4,[c0,c1,I6 low,I6 high],[ocL wD (grow (acc++wh rs low high i r))]):=by
 intro r
 induction r with
 |nil=>
  intro i acc h _;refine zz ?_;simp only[zlQ,u4,xJ,wN,zx,xb,z6,zH,zl,zb,xC (yb h),zq,wh,List.append_nil];rfl
 |cons x r ih=>
  intro i acc h ha;have hlt:=yH h;have ea:pBin .add (I6 (i:Int)) (I6 1)=some (I6 ((i+1:Nat):Int)):=yS;have c:=t28 k rs hl hl3 hf low high h0 h1 h2 x (hb.stops x (Lz3 (yF h))) i (by omega)
  have ef:fits 56 ((grow acc).els.length+1)=true:=xp (by decide) (by rw[zK];omega)
  have b4:∀{β:Type} (K:List DV→Option β),bA 4 (some (SA (wD (jF rs low high i x)))) K=K (wD (jF rs low high i x)):=fun _=>rfl
  have body:zlQ (D (k+6)) (u4 b) [d0,d1,enL 6 enR (some rs)] [I6 (i:Int),c0,c1,I6 low,I6 high] [ocL wD (grow acc)]=some (.normal,[I6 ((i+1:Nat):Int),c0,c1,I6 low,I6 high],[ocL wD (grow (acc++[jF rs low high i x]))]):=by
   rw[yT];unfold zgf at c;simp only[zlQ,u4,zx,xb,z6,zH,zl,zb,lt_i hlt,zq,if_true,xJ,wN,zR h,zgf,c,b4,xD,List.length_cons,List.length_nil,ef,xP,ea,yN];rw[←xA (f:=wD)];rfl
  rw[zS body,ih (i+1) _ (zN h) (by simp[ha])]
  simp[wh]
theorem zfT(b:Boa):36≤lowB b∧lowB b≤47:=by unfold lowB;omega
theorem zdA(b:Boa):lowB b≤zbp b∧zbp b≤lowB b+8:=by unfold zbp;omega
theorem zs0(k:Nat)(rs:List Rank)(hl:0<rs.length)(hl3:rs.length≤1000)(hf:∀r∈rs,rkF r∈feetA)(l:Sl Boa)(hll:l.els.length≤3)(hb:∀b∈l.els,b.ok)(h3:∀b∈l.els,b.stops.els.length≤3)(nm:DV):
  ∀(r:List Boa) (i:Nat) (acc:List Divn),l.els.drop i=r→acc.length=i→
  zP (zlR (D (k+6)) (enL 4 u4 l)) [I6 (i:Int),nm,enL 6 enR (some rs)] [ocL enV (grow acc),none]=some (.exit 2,[nm,enL 6 enR (some rs)],[ocL enV (grow (acc++vt rs i r)),none]):=by
 intro r
 induction r with
 |nil=>
  intro i acc h _;refine zz ?_;simp only[zlR,zx,xb,z6,qY,zH,zl,zb,xC (yb h),zq,vt,List.append_nil];rfl
 |cons b r ih=>
  intro i acc h ha;have hlt:=yH h;have hmem:=Lz3 (yF h);have ea:pBin .add (I6 (i:Int)) (I6 1)=some (I6 ((i+1:Nat):Int)):=yS;have hlow:=zfT b;have hhigh:=zdA b;have e1:pBin .rem (U8 (b.low:Int)) (U8 12)=some (U8 ((b.low % 12:Nat):Int)):=remN (b:=12) (by decide)
  have e2:yg .i64 (U8 ((b.low % 12:Nat):Int))=some (I6 ((b.low % 12:Nat):Int)):=jJ;have e3:pBin .add (I6 36) (I6 ((b.low % 12:Nat):Int))=some (I6 (lowB b)):=yS;have e4:pBin .add (I6 48) (I6 (i:Int))=some (I6 (48+(i:Int))):=yS;have e5:yg .u8 (I6 (48+(i:Int)))=some (U8 (48+(i:Int))):=by
   show some (DV.int .u8 (wp .u8 (48+(i:Int))))=_;rw[zmb];congr 2;omega
  have e6:pBin .rem (U8 (b.keys:Int)) (U8 9)=some (U8 ((b.keys % 9:Nat):Int)):=remN (b:=9) (by decide)
  have e7:yg .i64 (U8 ((b.keys % 9:Nat):Int))=some (I6 ((b.keys % 9:Nat):Int)):=jJ;have e8:pBin .add (I6 (lowB b)) (I6 ((b.keys % 9:Nat):Int))=some (I6 (zbp b)):=by
   have:pBin .add (I6 (lowB b)) (I6 ((b.keys % 9:Nat):Int))=some (I6 (lowB b+((b.keys % 9:Nat):Int))):=yS;exact this
  have ll:=zsZ k rs hl hl3 hf b (hb b hmem) (h3 b hmem) (lowB b) (zbp b) (by omega) (by omega) (by omega) (I6 (i:Int)) nm (St (pre 68 i)) (Bo b.pedal) b.stops.els 0 [] rfl rfl
  rw[show ocL wD (grow ([]:List Stop))=none from rfl,show (I6 ((0:Nat):Int):DV)=I6 0 from rfl,List.nil_append]at ll
  have ef:fits 64 ((grow acc).els.length+1)=true:=xp (by decide) (by rw[zK];omega)
  have body:zlR (D (k+6)) (enL 4 u4 l) [I6 (i:Int),nm,enL 6 enR (some rs)] [ocL enV (grow acc),none]=some (.normal,[I6 ((i+1:Nat):Int),nm,enL 6 enR (some rs)],[ocL enV (grow (acc++[zdn rs i b])),none]):=by
   rw[yT];have ix:pIdx 4 (enL 4 u4 l) (I6 (i:Int))=some (u4 b):=zR h _;have q0:atD (u4 b) 0=U8 (b.low:Int):=rfl;have q1:atD (u4 b) 1=U8 (b.keys:Int):=rfl;have q2:atD (u4 b) 2=Bo b.pedal:=rfl;simp only[zlR,zx,xb,z6,qY,zH,zl,zb,lt_i hlt,zq,if_true,ix,q0,q1,q2,e1,e2,e3,e4,e5,zaA,zda,e6,e7,e8,ll,yn,Nat.beq_refl,cond_true,xD,List.length_cons,List.length_nil,ef,xP,ea,yN,qx];rw[←xA (f:=enV)];rfl
  rw[zS body,ih (i+1) _ (zN h) (by simp[ha])]
  simp[vt]
theorem zsX(n:Nat)(hn:0<n)(hn3:n≤1000)(l:Sl Lnk)(hll:l.els.length≤3)(hb:∀b∈l.els,b.ok)(nm rk:DV)(dv:OC):
  ∀(r:List Lnk) (i:Nat) (acc:List Cpl),l.els.drop i=r→acc.length=i→
  zP (zlP (enL 4 ziW l) (I6 (n:Int))) [I6 (i:Int),nm,rk] [dv,ocL enC (grow acc)]=some (.exit 6,[nm,rk],[dv,ocL enC (grow (acc++kK n i r))]):=by
 intro r
 induction r with
 |nil=>
  intro i acc h _;refine zz ?_;simp only[zlP,zx,xb,z6,qY,zH,zl,zb,xC (yb h),zq,kK,List.append_nil];rfl
 |cons b r ih=>
  intro i acc h ha;have hlt:=yH h;have hbb:=hb b (Lz3 (yF h));have ea:pBin .add (I6 (i:Int)) (I6 1)=some (I6 ((i+1:Nat):Int)):=yS;have e4:pBin .add (I6 48) (I6 (i:Int))=some (I6 (48+(i:Int))):=yS;have e5:yg .u8 (I6 (48+(i:Int)))=some (U8 (48+(i:Int))):=by
   show some (DV.int .u8 (wp .u8 (48+(i:Int))))=_;rw[zmb];congr 2;omega
  have g1:yg .i64 (U8 (b.src:Int))=some (I6 (b.src:Int)):=by have:=hbb.src;exact jJ
  have g2:pBin .rem (I6 (b.src:Int)) (I6 (n:Int))=some (I6 ((b.src % n:Nat):Int)):=remN (by omega)
  have g3:yg .i64 (U8 (b.dst:Int))=some (I6 (b.dst:Int)):=by have:=hbb.dst;exact jJ
  have g4:pBin .rem (I6 (b.dst:Int)) (I6 (n:Int))=some (I6 ((b.dst % n:Nat):Int)):=remN (by omega)
  have g5:yg .i64 (.int .i8 b.shift)=some (I6 b.shift):=by have:=hbb.s1;have:=hbb.s2;exact jJ
  have g6:pBin .rem (I6 b.shift) (I6 25)=some (I6 (b.shift.tmod 25)):=zay _ _ _ (by decide)
  have ef:fits 48 ((grow acc).els.length+1)=true:=xp (by decide) (by rw[zK];omega)
  have body:zlP (enL 4 ziW l) (I6 (n:Int)) [I6 (i:Int),nm,rk] [dv,ocL enC (grow acc)]=some (.normal,[I6 ((i+1:Nat):Int),nm,rk],[dv,ocL enC (grow (acc++[jT n i b]))]):=by
   rw[yT,←xA (f:=enC)];simp only[zlP,zx,xb,z6,qY,zH,zl,zb,lt_i hlt,zq,if_true,zR h,ziW,xJ,wN,e4,e5,zaA,zda,g1,g2,g3,g4,g5,g6,xx,xD,List.length_cons,List.length_nil,ef,xP,ea,yN];unfold jT enC;by_cases h1:((b.src % n:Nat):Int)=((b.dst % n:Nat):Int)
   ·by_cases h2:b.shift.tmod 25=0
    ·rw[if_pos (by simpa using h1),if_pos (by simpa using h2),if_pos ⟨h1,h2⟩]
    ·rw[if_pos (by simpa using h1),if_neg (by simpa using h2),if_neg (fun hh=>h2 hh.2)]
   ·rw[if_neg (by simpa using h1),if_neg (fun hh=>h1 hh.1)]
  rw[zS body,ih (i+1) _ (zN h) (by simp[ha])]
  simp[kK]
theorem kV{p:Pln}(h:zdC p=true):1≤p.ranks.els.length∧p.ranks.els.length≤3∧1≤p.divs.els.length∧p.divs.els.length≤3∧p.cpls.els.length≤3∧∀b∈p.divs.els,b.stops.els.length≤3:=by
 unfold zdC ziU at h;simp only[LzC,decide_eq_true_eq,List.all_eq_true]at h;obtain⟨⟨⟨⟨⟨a,b⟩,c⟩,d⟩,e⟩,f⟩:=h;exact⟨a,b,c,d,e,f⟩
theorem zf4{α:Type}{l:List α}(h:0<l.length):grow l=some l:=by cases l with|nil=>simp at h|cons _ _=>rfl
theorem t7(k:Nat)(p:Pln)(hp:p.ok)(hf:zdC p=true):D (k+7) 7 [SA (zdN p)]=some (SA (enO (mk18 p))):=by
 obtain⟨f1,f2,f3,f4,f5,f6⟩:=kV hf;have hlen:(wJ 0 p.ranks.els).length=p.ranks.els.length:=kJ _ _;have l2:=l2_7 (k+4) p.ranks f2 hp.ranks (St zcj) p.ranks.els 0 [] rfl rfl;have l12:=zs0 k (wJ 0 p.ranks.els) (by omega) (by omega) (qv _ _) p.divs f4 hp.divs f6 (St zcj) p.divs.els 0 [] rfl rfl
 have l43:=zsX p.divs.els.length (by omega) (by omega) p.cpls f5 hp.cpls (St zcj) (enL 6 enR (some (wJ 0 p.ranks.els))) (ocL enV (grow (vt (wJ 0 p.ranks.els) 0 p.divs.els))) p.cpls.els 0 [] rfl rfl
 rw[show ocL enR (grow ([]:List Rank))=none from rfl,show (I6 ((0:Nat):Int):DV)=I6 0 from rfl,List.nil_append]at l2
 rw[show ocL enV (grow ([]:List Divn))=none from rfl,show (I6 ((0:Nat):Int):DV)=I6 0 from rfl,List.nil_append]at l12
 rw[show ocL enC (grow ([]:List Cpl))=none from rfl,show (I6 ((0:Nat):Int):DV)=I6 0 from rfl,List.nil_append]at l43
 have hg:grow (wJ 0 p.ranks.els)=some (wJ 0 p.ranks.els):=zf4 (by omega)
 unfold zdN;rw[D7];unfold P7 mk18 enO;unfold zcj at l2 l12 l43;rw[hg]at l2 ⊢;simp only[l2,yn,Nat.beq_refl,cond_true,zx,xb,z6,qY,qx,l12,zH,zb,l43];rfl
end Go.Proofs.Tryz.Kn
end
section
namespace Go.Proofs.Tryz.Kn
open Go Go.CE Go.PE
theorem zmX:([82,83,68,67].all fun c=>[0,1,2,3,4,5,6,7,8,9].all fun i=>isName (pre c i))=true:=by kernel_rfl
theorem jr{c:UInt8}(hc:c∈([82,83,68,67]:List UInt8)){i:Nat}(h:i<10):isName (pre c i)=true:=by
 have:=List.all_eq_true.1 (List.all_eq_true.1 zmX c hc) i;refine this ?_;have:i=0∨i=1∨i=2∨i=3∨i=4∨i=5∨i=6∨i=7∨i=8∨i=9:=by omega
 rcases this with rfl|rfl|rfl|rfl|rfl|rfl|rfl|rfl|rfl|rfl<;>simp
theorem zpd:([82,83,68,67].all fun c=>[0,1,2].all fun i=>[0,1,2].all fun j=>Nat.beq i j || !eqB (pre c i) (pre c j))=true:=by kernel_rfl
theorem zdK{c:UInt8}(hc:c∈([82,83,68,67]:List UInt8)){i j:Nat}(hi:i<3)(hj:j<3)(h:i≠j):eqB (pre c i) (pre c j)=false:=by
 have hm:∀n<3,n∈([0,1,2]:List Nat):=by
  intro n hn;have:n=0∨n=1∨n=2:=by omega
  rcases this with rfl|rfl|rfl<;>simp
 have:=List.all_eq_true.1 (List.all_eq_true.1 (List.all_eq_true.1 zpd c hc) i (hm i hi)) j (hm j hj);rw[Bool.or_eq_true]at this;rcases this with e|e
 ·exact absurd (Lz1 e) h
 ·simpa using e
theorem zfY(n:Nat):isName (zh7 n)=true:=by
 unfold zh7;split<;>rfl
theorem zh6(r:RPl)(hr:r.ok)(n:Nat):(uC r n).any xH=false:=by
 rw[List.any_eq_false];intro x hx;unfold uC at hx;obtain⟨k,_,rfl⟩:=List.mem_map.1 hx;have:=znN hr (k % 5);unfold xH;simp only[Bool.or_eq_true,decide_eq_true_eq];omega
theorem zkC(i:Nat)(r:RPl)(hr:r.ok):yP (mk14 i r)=0:=by
 have h1:=jr (c:=82) (by simp) (show i % 10<10 by omega)
 have h2:=zrF _ (zod r.feet);have h3:=zh6 r hr (1+r.pipes % 25);have h4:=zaJ r (1+r.pipes % 25);have:=hr.f1;have:=hr.f2;have h5:decide (-256≤r.first)=true:=decide_eq_true (by omega)
 have h6:decide (r.first≤256)=true:=decide_eq_true (by omega)
 have h7:¬(1+r.pipes % 25=0):=by omega
 have h8:¬(128<1+r.pipes % 25):=by omega
 unfold yP mk14;simp only[h1,zfY,h2,h5,h6,yD,h4,h3,h7,h8,Bool.not_true,Bool.false_eq_true,if_false,Bool.and_self,ne_eq,not_true_eq_false]
theorem zfB(l:List Rank)(h:∀r∈l,yP r=0):wG l=0:=by
 induction l with
 |nil=>rfl
 |cons x l ih=>unfold wG;rw[if_neg (by simpa using h x (List.mem_cons_self ..))];exact ih fun r hr=>h r (List.mem_cons_of_mem _ hr)
theorem zhh:∀(l:List RPl) (i:Nat),(∀r∈l,r.ok)→∀x∈wJ i l,yP x=0
 | [],_,_,_,h=>by cases h
 |r::l,i,H,x,h=>by
  rcases List.mem_cons.1 h with rfl|h
  ·exact zkC i r (H r (List.mem_cons_self ..))
  ·exact zhh l _ (fun r hr=>H r (List.mem_cons_of_mem _ hr)) x h
theorem zhi:∀(l:List RPl) (i:Nat),i+l.length≤3→(∀r∈l,r.ok)→uD (wJ i l) ((List.range i).map (pre 82))=0
 | [],_,_,_=>rfl
 |r::l,i,hl,H=>by
  simp only[List.length_cons]at hl;have h1:=zkC i r (H r (List.mem_cons_self ..));have hi:i % 10=i:=by omega
  have h2:((List.range i).map (pre 82)).any (eqB (mk14 i r).name)=false:=by
   rw[List.any_eq_false];intro s hs;obtain⟨j,hj,rfl⟩:=List.mem_map.1 hs;have hj:=List.mem_range.1 hj;have:=zdK (c:=82) (by simp) (show i<3 by omega) (show j<3 by omega) (by omega)
   show ¬eqB (pre 82 (i % 10)) (pre 82 j)=true;rw[hi,this];simp
  unfold wJ uD;rw[if_neg (by simpa using h1),if_neg (by rw[h2];simp)]
  have:(List.range i).map (pre 82)++[(mk14 i r).name]=(List.range (i+1)).map (pre 82):=by
   rw[List.range_succ,List.map_append];show _++[pre 82 (i % 10)]=_;rw[hi];rfl
  rw[this];exact zhi l (i+1) (by omega) fun r hr=>H r (List.mem_cons_of_mem _ hr)
theorem q8:∀(l:List RPl) (i:Nat),∀r∈wJ i l,zcf r
 | [],_,_,h=>by cases h
 |x::l,i,r,h=>by
  rcases List.mem_cons.1 h with rfl|h
  ·show (uC x (1+x.pipes % 25)).length≤_;rw[zaJ];omega
  ·exact q8 l _ r h
theorem j4(n:Nat)(d:Draw)(h1:0≤d.rank)(h2:d.rank<(n:Int))(h3:-127≤d.shift)(h4:d.shift≤127):yU n [d]=0:=by
 unfold yU vL vL;rw[if_neg (by simp),if_neg (by omega),if_neg (by omega),if_neg (by omega),if_neg (by omega),if_neg (by simp)]
theorem zgh(n:Nat)(d e:Draw)(h1:0≤d.rank)(h2:d.rank<(n:Int))(h3:-127≤d.shift)(h4:d.shift≤127)(g1:0≤e.rank)(g2:e.rank<(n:Int))(g3:-127≤e.shift)(g4:e.shift≤127)(hne:e≠d):yU n [d,e]=0:=by
 unfold yU vL vL vL;rw[if_neg (by simp),if_neg (by omega),if_neg (by omega),if_neg (by omega),if_neg (by omega),if_neg (by simp),if_neg (by omega),if_neg (by omega),if_neg (by omega),if_neg (by omega),if_neg (by simpa using hne)]
theorem zoI(x:Place)(hlow:0≤x.low)(hlh:x.low≤x.high)(n m:Int)(sh sh2 at_:Int)(h1:0≤n)(h2:n<(x.ranks.els.length:Int))(h3:0≤m)(h4:m<(x.ranks.els.length:Int))(s1:-100≤sh)(s2:sh≤100)(s3:-100≤sh2)(s4:sh2≤100)(a1:x.low≤at_)(a2:at_≤x.high)(kd:Nat):
  (xw x.low x.high n sh m sh2 at_ kd).length≠0∧(xw x.low x.high n sh m sh2 at_ kd).length≤12∧uh x (xw x.low x.high n sh m sh2 at_ kd) none=0:=by
 have d1:=j4 x.ranks.els.length ⟨n,sh⟩ h1 h2 (by show -127≤sh;omega) (by show sh≤127;omega)
 have d2:=j4 x.ranks.els.length ⟨m,sh2⟩ h3 h4 (by show -127≤sh2;omega) (by show sh2≤127;omega)
 have d3:=j4 x.ranks.els.length ⟨n,sh-12⟩ h1 h2 (by show -127≤sh-12;omega) (by show sh-12≤127;omega)
 have d4:=zgh x.ranks.els.length ⟨n,sh⟩ ⟨n,sh+7⟩ h1 h2 (by show -127≤sh;omega) (by show sh≤127;omega) h1 h2 (by show -127≤sh+7;omega) (by show sh+7≤127;omega) (fun h=>by have:=congrArg Draw.shift h;simp only at this;omega)
 have one:∀(lo hi:Int) (ds:List Draw) (p:Option Int) (r:List Seg),x.low≤lo→lo≤hi→hi≤x.high→leO lo p=false→yU x.ranks.els.length ds=0→uh x (⟨lo,hi,some ds⟩::r) p=uh x r (some hi):=by
  intro lo hi ds p r e1 e2 e3 e4 e5;rw[uh];simp only[yD,e4,e5];rw[if_neg (by omega),if_neg (by omega),if_neg (by omega),if_neg (by simp),if_neg (by simp)]
 unfold xw;split
 ·refine⟨by simp,by simp,?_⟩
  rw[one _ _ _ _ _ (by omega) (by omega) (by omega) rfl d4];rfl
 ·by_cases hb:x.low<at_
  ·rw[if_pos hb];refine⟨by simp,by simp,?_⟩
   rw[one _ _ _ _ _ (by omega) (by omega) (by omega) rfl d1,one _ _ _ _ _ (by omega) (by omega) (by omega) (by simp only[leO];exact decide_eq_false (by omega)) d2];rfl
  ·rw[if_neg hb];refine⟨by simp,by simp,?_⟩
   rw[one _ _ _ _ _ (by omega) (by omega) (by omega) rfl d2];rfl
 ·by_cases hb:x.low<at_
  ·rw[if_pos hb];refine⟨by simp,by simp,?_⟩
   rw[one _ _ _ _ _ (by omega) (by omega) (by omega) rfl d1,one _ _ _ _ _ (by omega) (by omega) (by omega) (by simp only[leO];exact decide_eq_false (by omega)) d3];rfl
  ·rw[if_neg hb];refine⟨by simp,by simp,?_⟩
   rw[one _ _ _ _ _ (by omega) (by omega) (by omega) rfl d3];rfl
 ·refine⟨by simp,by simp,?_⟩
  rw[one _ _ _ _ _ (by omega) (by omega) (by omega) rfl d1];rfl
 ·refine⟨by simp,by simp,?_⟩
  rw[one _ _ _ _ _ (by omega) (by omega) (by omega) rfl d1];rfl
theorem zkA(rs:List Rank)(hl:0<rs.length)(hl3:rs.length≤60)(hr:∀r∈rs,yP r=0)(hf:∀r∈rs,rkF r∈feetA)(low high:Int)(h0:0≤low)(h1:low≤high)(h2:high≤127)(i:Nat)(hi:i<10)(x:Pul):vG ⟨some rs,low,high⟩ (jF rs low high i x)=0:=by
 have p1:uk ⟨some rs,low,high⟩=0:=by
  unfold uk;rw[if_neg (by simp only[yD];omega),if_neg (by rw[show Sl.els (Place.mk (some rs) low high).ranks=rs from rfl,zfB rs hr];simp)]
  show right low high=0;unfold right;rw[if_neg (by omega),if_neg (by omega),if_neg (by omega)]
 have hn:x.rank % rs.length<rs.length:=Nat.mod_lt _ hl;have hm:(x.rank % rs.length+1) % rs.length<rs.length:=Nat.mod_lt _ hl;have b1:=zjv (fB x.feet) (rkF (rkAt rs (x.rank % rs.length))) (zcC _) (hf _ (km hn));have b2:=zjv (fB x.feet) (rkF (rkAt rs ((x.rank % rs.length+1) % rs.length))) (zcC _) (hf _ (km hm));have hq:0≤(x.at_:Int).tmod (high-low+1)∧(x.at_:Int).tmod (high-low+1)<high-low+1:=⟨Int.tmod_nonneg _ (by omega),Int.tmod_lt_of_pos _ (by omega)⟩
 obtain⟨s1,s2,s3⟩:=zoI ⟨some rs,low,high⟩ h0 h1 ((x.rank % rs.length:Nat):Int) (((x.rank % rs.length+1) % rs.length:Nat):Int) (shf (fB x.feet) (rkF (rkAt rs (x.rank % rs.length)))) (shf (fB x.feet) (rkF (rkAt rs ((x.rank % rs.length+1) % rs.length)))) (low+((x.at_:Int).tmod (high-low+1)))
  (by omega) (by simp only[yD];omega) (by omega) (by simp only[yD];omega) b1.1 b1.2 b2.1 b2.2 (by show low≤_;omega) (by show _≤high;omega) (x.kind % 6)
 unfold vG jF;rw[if_neg (by rw[p1];simp),if_neg (by rw[show isName _=true from jr (c:=83) (by simp) hi];simp),if_neg (by simpa using zrE _ (zcC x.feet)),if_neg (by simpa using s1),if_neg (by simp only[yD];exact Nat.not_lt.2 s2)]
 exact s3
theorem zcq(rs:List Rank)(hl:0<rs.length)(hl3:rs.length≤60)(hr:∀r∈rs,yP r=0)(hf:∀r∈rs,rkF r∈feetA)(low high:Int)(h0:0≤low)(h1:low≤high)(h2:high≤127):
  ∀(l:List Pul) (i:Nat),i+l.length≤3→jM ⟨some rs,low,high⟩ (wh rs low high i l) ((List.range i).map (pre 83))=0
 | [],_,_=>rfl
 |x::l,i,h=>by
  simp only[List.length_cons]at h;have e1:=zkA rs hl hl3 hr hf low high h0 h1 h2 i (by omega) x
  have e2:((List.range i).map (pre 83)).any (eqB (jF rs low high i x).name)=false:=by
   rw[List.any_eq_false];intro s hs;obtain⟨j,hj,rfl⟩:=List.mem_map.1 hs;have hj:=List.mem_range.1 hj;have:=zdK (c:=83) (by simp) (show i<3 by omega) (show j<3 by omega) (by omega)
   show ¬eqB (pre 83 i) (pre 83 j)=true;rw[this];simp
  unfold wh jM;rw[if_neg (by simpa using e1),if_neg (by rw[e2];simp)]
  have:(List.range i).map (pre 83)++[(jF rs low high i x).name]=(List.range (i+1)).map (pre 83):=by
   rw[List.range_succ,List.map_append];rfl
  rw[this];exact zcq rs hl hl3 hr hf low high h0 h1 h2 l (i+1) (by omega)
theorem um(rs:List Rank)(low high:Int):∀(l:List Pul) (i:Nat),(wh rs low high i l).length=l.length
 | [],_=>rfl
 |_::l,i=>by simp[wh,um rs low high l]
theorem zjK(b:Boa):right (lowB b) (zbp b)=0:=by
 have:=zfT b;have:=zdA b;unfold right;rw[if_neg (by omega),if_neg (by omega),if_neg (by omega)]
theorem zm7(rs:List Rank)(hl:0<rs.length)(hl3:rs.length≤60)(hr:∀r∈rs,yP r=0)(hf:∀r∈rs,rkF r∈feetA)(i:Nat)(b:Boa)(hb:b.stops.els.length≤3):jI (some rs) (zdn rs i b)=0:=by
 have:=zfT b;have:=zdA b;unfold jI zdn;simp only[zK,um,zjK];rw[if_neg (by simp),if_neg (by omega)]
 exact zcq rs hl hl3 hr hf _ _ (by omega) (by omega) (by omega) _ 0 (by omega)
theorem zeE(rs:List Rank)(hl:0<rs.length)(hl3:rs.length≤60)(hr:∀r∈rs,yP r=0)(hf:∀r∈rs,rkF r∈feetA):
  ∀(l:List Boa) (i:Nat),i+l.length≤3→(∀b∈l,b.stops.els.length≤3)→qa (some rs) (vt rs i l) ((List.range i).map (pre 68))=0
 | [],_,_,_=>rfl
 |x::l,i,h,H=>by
  simp only[List.length_cons]at h;have e1:=zm7 rs hl hl3 hr hf i x (H x (List.mem_cons_self ..));have e2:((List.range i).map (pre 68)).any (eqB (zdn rs i x).name)=false:=by
   rw[List.any_eq_false];intro s hs;obtain⟨j,hj,rfl⟩:=List.mem_map.1 hs;have hj:=List.mem_range.1 hj;have:=zdK (c:=68) (by simp) (show i<3 by omega) (show j<3 by omega) (by omega)
   show ¬eqB (pre 68 i) (pre 68 j)=true;rw[this];simp
  have e3:isName (zdn rs i x).name=true:=jr (c:=68) (by simp) (by omega)
  unfold vt qa;rw[if_neg (by rw[e3];simp),if_neg (by rw[e2];simp),if_neg (by simpa using e1)]
  have:(List.range i).map (pre 68)++[(zdn rs i x).name]=(List.range (i+1)).map (pre 68):=by
   rw[List.range_succ,List.map_append];rfl
  rw[this];exact zeE rs hl hl3 hr hf l (i+1) (by omega) fun b hb=>H b (List.mem_cons_of_mem _ hb)
theorem wP(rs:List Rank):∀(l:List Boa) (i:Nat),(vt rs i l).length=l.length
 | [],_=>rfl
 |_::l,i=>by simp[vt,wP rs l]
theorem zbh(rs:List Rank):∀(l:List Boa) (i:Nat),((vt rs i l).map keyOf).any (fun k=>right k.1 k.2 != 0)=false
 | [],_=>rfl
 |b::l,i=>by
  simp only[vt,List.map_cons,List.any_cons,zbh rs l];have:right (keyOf (zdn rs i b)).1 (keyOf (zdn rs i b)).2=0:=zjK b;rw[this];rfl
theorem zeF(n:Nat)(hn:0<n):∀(l:List Lnk) (i:Nat) (p:List Cpl),i+l.length≤3→(∀c∈l,c.ok)→p.map Cpl.name=(List.range i).map (pre 67)→zgl n p (kK n i l)=0
 | [],_,_,_,_,_=>rfl
 |x::l,i,p,h,H,hp=>by
  simp only[List.length_cons]at h;have e2:p.any (fun y=>eqB y.name (jT n i x).name)=false:=by
   rw[List.any_eq_false];intro y hy;have:y.name∈(List.range i).map (pre 67):=by rw[←hp];exact List.mem_map_of_mem hy
   obtain⟨j,hj,e⟩:=List.mem_map.1 this;have hj:=List.mem_range.1 hj;have:=zdK (c:=67) (by simp) (show j<3 by omega) (show i<3 by omega) (by omega)
   rw[←e];show ¬eqB (pre 67 j) (pre 67 i)=true;rw[this];simp
  have e3:isName (jT n i x).name=true:=jr (c:=67) (by simp) (by omega)
  have a1:x.src % n<n:=Nat.mod_lt _ hn;have a2:x.dst % n<n:=Nat.mod_lt _ hn;have hs:-25<x.shift.tmod 25∧x.shift.tmod 25<25:=by
   have:=Int.lt_tmod_of_pos x.shift (show (0:Int)<25 by decide)
   have:=Int.tmod_lt_of_pos x.shift (show (0:Int)<25 by decide)
   omega
  have q:∀a:Bool,True:=fun _=>trivial
  have f0:¬(jT n i x).src<0:=by show ¬((x.src % n:Nat):Int)<0;omega
  have f1:¬(n:Int)≤(jT n i x).src:=by show ¬(n:Int)≤((x.src % n:Nat):Int);omega
  have f2:¬(jT n i x).dst<0:=by show ¬((x.dst % n:Nat):Int)<0;omega
  have f3:¬(n:Int)≤(jT n i x).dst:=by show ¬(n:Int)≤((x.dst % n:Nat):Int);omega
  have f4:-127≤(jT n i x).shift∧(jT n i x).shift≤127∧¬((jT n i x).src=(jT n i x).dst∧(jT n i x).shift=0):=by
   unfold jT;simp only;split
   ·rename_i hh;exact⟨by omega,by omega,fun h=>by omega⟩
   ·rename_i hh;exact⟨by omega,by omega,fun h=>hh h⟩
  unfold kK zgl;rw[if_neg (by rw[e3];simp),if_neg (by rw[e2];simp),if_neg f0,if_neg f1,if_neg f2,if_neg f3,if_neg (by omega),if_neg (by omega),if_neg f4.2.2]
  refine zeF n hn l (i+1) _ (by omega) (fun c hc=>H c (List.mem_cons_of_mem _ hc)) ?_
  rw[List.map_append,hp,List.range_succ,List.map_append];rfl
theorem jk(n:Nat):∀(l:List Lnk) (i:Nat),(kK n i l).length=l.length
 | [],_=>rfl
 |_::l,i=>by simp[kK,jk n l]
theorem ziH(p:Pln)(hp:p.ok)(hf:zdC p=true):vR (mk18 p)=0:=by
 obtain⟨f1,f2,f3,f4,f5,f6⟩:=kV hf;have hlen:(wJ 0 p.ranks.els).length=p.ranks.els.length:=kJ _ _;have hg:grow (wJ 0 p.ranks.els)=some (wJ 0 p.ranks.els):=zf4 (by omega)
 have r1:=zhi p.ranks.els 0 (by omega) hp.ranks
 have d1:=zeE (wJ 0 p.ranks.els) (by omega) (by omega) (zhh _ _ hp.ranks) (qv _ _) p.divs.els 0 (by omega) f6
 have c1:=zeF p.divs.els.length (by omega) p.cpls.els 0 [] (by omega) hp.cpls rfl
 have k1:=zbh (wJ 0 p.ranks.els) p.divs.els 0;simp only[List.range_zero,List.map_nil]at r1 d1;unfold vR mk18;simp only[zK,hg,yD,hlen,wP];rw[if_neg (by rw[show isName zcj=true from rfl];simp),if_neg (by omega),if_neg (by rw[r1];simp),if_neg (by omega),if_neg (by omega),if_neg (by rw[d1];simp)]
 unfold zhN;rw[if_neg (by rw[List.length_map,wP];omega),if_neg (by rw[jk];omega),if_neg (by rw[k1];simp),List.length_map,wP]
 exact c1
theorem zbg(rs:List Rank)(low high:Int):∀(l:List Pul) (i:Nat),∀s∈wh rs low high i l,s.ok
 | [],_,_,h=>by cases h
 |x::l,i,s,h=>by
  rcases List.mem_cons.1 h with rfl|h
  ·have hall:∀n sh m sh2 a kd,(xw low high n sh m sh2 a kd).length≤2∧∀g∈xw low high n sh m sh2 a kd,g.draws.els.length≤2:=by
    intro n sh m sh2 a kd;unfold xw;split
    ·simp
    ·split<;>simp
    ·split<;>simp
    ·simp
    ·simp
   obtain⟨q1,q2⟩:=hall ((x.rank % rs.length:Nat):Int) (shf (fB x.feet) (rkF (rkAt rs (x.rank % rs.length)))) (((x.rank % rs.length+1) % rs.length:Nat):Int)
    (shf (fB x.feet) (rkF (rkAt rs ((x.rank % rs.length+1) % rs.length)))) (low+((x.at_:Int).tmod (high-low+1))) (x.kind % 6)
   refine⟨?_,fun g hg=>?_⟩
   ·show (xw _ _ _ _ _ _ _ _).length≤_;omega
   ·have:=q2 g hg;show g.draws.els.length≤_;omega
  ·exact zbg rs low high l _ s h
theorem zpf(p:Pln)(hf:zdC p=true):(mk18 p).ok:=by
 obtain⟨f1,f2,f3,f4,f5,f6⟩:=kV hf;have hd:∀(rs:List Rank) (l:List Boa) (i:Nat),(∀b∈l,b.stops.els.length≤3)→∀d∈vt rs i l,d.ok:=by
  intro rs l
  induction l with
  |nil=>intro i _ d h;cases h
  |cons b l ih=>
   intro i H d h;rcases List.mem_cons.1 h with rfl|h
   ·have:=H b (List.mem_cons_self ..);refine⟨?_,fun s hs=>?_⟩
    ·show (grow (wh rs (lowB b) (zbp b) 0 b.stops.els)).els.length≤_;rw[zK,um];omega
    ·have hs:s∈(grow (wh rs (lowB b) (zbp b) 0 b.stops.els)).els:=hs;rw[zK]at hs;exact zbg rs _ _ _ _ s hs
   ·exact ih (i+1) (fun b hb=>H b (List.mem_cons_of_mem _ hb)) d h
 unfold mk18;refine⟨?_,fun r hr=>?_,?_,fun d h=>?_,?_⟩
 ·simp only[zK,kJ];omega
 ·simp only[zK]at hr;exact q8 _ _ r hr
 ·simp only[zK,wP];omega
 ·simp only[zK]at h;exact hd _ _ _ f6 d h
 ·simp only[zK,jk];omega
end Go.Proofs.Tryz.Kn
end
section
namespace Go.Proofs.Tryz.Kn
open Go Go.CE Go.PE
def jd(a b:Int):Int:=IntKind.wrap .u64 (BitVec.ofInt IntKind.u64.bits a &&& ~~~(BitVec.ofInt IntKind.u64.bits b)).toNat
def andI(a b:Int):Int:=IntKind.wrap .u64 (BitVec.ofInt IntKind.u64.bits a &&& BitVec.ofInt IntKind.u64.bits b).toNat
theorem we(a b:Int):pBin .andNot (U64 a) (U64 b)=some (U64 (jd a b)):=by
 simp only[pBin,y1,cond_true,vK,zhD,oD];rfl
theorem xe(a b:Int):pBin .and (U64 a) (U64 b)=some (U64 (andI a b)):=by
 simp only[pBin,y1,cond_true,vK,zrK,oD];rfl
def shrI(a:Int)(n:Nat):Int:=Int.fdiv a (2^(min n 64))
theorem pShr{k:IntKind}(a:Int)(n:Nat):yv false (U64 a) (.int k (n:Int))=some (U64 (shrI a n)):=by
 have h:ltI (n:Int) 0=false:=by rw[uR];exact decide_eq_false (by omega)
 show oD (zdF .u64 a (n:Int))=_;unfold zdF;rw[h,cond_false];rfl
theorem zgE{m:Nat}(h:m≤4611686018427387904):wp .u64 (m:Int)=(m:Int):=by rw[zos];omega
theorem zdf{k:IntKind}{n:Nat}(h:n≤62):yv true (U64 1) (.int k (n:Int))=some (U64 ((2^n:Nat):Int)):=by
 have h0:ltI (n:Int) 0=false:=by rw[uR];exact decide_eq_false (by omega)
 show oD (zdG .u64 1 (n:Int))=_;unfold zdG;rw[h0,cond_false];have hm:min (n:Int).toNat IntKind.u64.bits=n:=by
  rw[Int.toNat_natCast];show min n 64=n;omega
 rw[hm];have hp:(2^n:Nat)≤2^62:=Nat.pow_le_pow_right (by decide) h
 have e:Int.mul 1 (2^n)=((2^n:Nat):Int):=by
  show (1:Int)*2^n=_;rw[Int.one_mul];simp
 rw[e,zgE (Nat.le_trans hp (by decide))]
 rfl
theorem sub1{n:Nat}(h:n≤62):pBin .sub (U64 ((2^n:Nat):Int)) (U64 1)=some (U64 ((2^n-1:Nat):Int)):=by
 have hp:(2^n:Nat)≤2^62:=Nat.pow_le_pow_right (by decide) h
 have h1:1≤(2^n:Nat):=Nat.one_le_two_pow;have h2:(2:Nat)^62=4611686018427387904:=by decide
 have e:((2^n:Nat):Int)-1=((2^n-1:Nat):Int):=by
  generalize (2^n:Nat)=m at h1;omega
 rw[zg8,e,zgE (by omega)]
theorem neqU(a b:Int):pBin .neq (U64 a) (U64 b)=some (Bo (!(a==b))):=yf _ _ _
abbrev enU(n:Int):List DV:=[U64 n]
structure Reg where
 stops:Sl Int
 cpls:Int
 off:Int
def y5(r:Reg):List DV:=[enL 1 enU r.stops,U64 r.cpls,U64 r.off]
def qW:List Divn→List Int→Bool
 |d::ds,s::ss=>!(shrI s d.stops.els.length==0)||qW ds ss
 |_,_=>false
def jD(o:Org)(r:Reg):Int:=
 if vR o≠0 then vR o else if r.stops.els.length≠o.divs.els.length then 5 else if qW o.divs.els r.stops.els=true then 3
 else if shrI r.cpls o.cpls.els.length≠0 then 3 else if shrI r.off o.divs.els.length≠0 then 3 else 0
theorem l18(dv:Sl Divn)(hd:dv.els.length≤9223372036854775807)(st:Sl Int)(hl:st.els.length=dv.els.length):∀(ds:List Divn) (ss:List Int) (i:Nat),dv.els.drop i=ds→st.els.drop i=ss→
  zP (zl2 (I6 (dv.els.length:Int)) (enL 5 enV dv) (enL 1 enU st)) [I6 (i:Int)] []=some (if qW ds ss=true then(.ret,[I6 3],[]) else(.exit 0,[],[])):=by
 intro ds
 induction ds with
 |nil=>
  intro ss i h _;refine zz ?_;simp only[zl2,zx,zl,zb,xC (yb h),zq];rfl
 |cons d ds ih=>
  intro ss i h h';have h1:=yH h;cases ss with
  |nil=>have:=yb h';omega
  |cons s ss=>
   have ea:pBin .add (I6 (i:Int)) (I6 1)=some (I6 ((i+1:Nat):Int)):=yS;have body:zl2 (I6 (dv.els.length:Int)) (enL 5 enV dv) (enL 1 enU st) [I6 (i:Int)] []=some (if shrI s d.stops.els.length=0 then(.normal,[I6 ((i+1:Nat):Int)],[]) else(.ret,[I6 3],[])):=by
    simp only[zl2,zx,zl,zb,lt_i h1,zq,if_true,zR h,zR h',enV,xJ,wN,zH,pShr,neqU,ea];by_cases hz:shrI s d.stops.els.length=0<;>simp[hz]
   by_cases hc:shrI s d.stops.els.length=0
   ·rw[if_pos hc]at body;rw[zS body,ih ss (i+1) (zN h) (zN h')];simp[qW,hc]
   ·rw[if_neg hc]at body;rw[zE body];simp[qW,hc]
theorem t18(k:Nat)(o:Org)(ho:o.ok)(r:Reg):D (k+10) 18 [SA (enO o),SA (y5 r)]=some (S1 (I6 (jD o r))):=by
 have c:=t17 k o ho;unfold enO at c ⊢;unfold y5;rw[D18];unfold P18 jD;simp only[c,yc,yf,zb,zq,zH];by_cases h1:vR o=0
 ·by_cases h2:r.stops.els.length=o.divs.els.length
  ·have e:(!((r.stops.els.length:Int)==(o.divs.els.length:Int)))=false:=by simp[h2]
   have l:=l18 o.divs ho.dl r.stops h2 o.divs.els r.stops.els 0 rfl rfl;simp only[h1,h2,beq_self_eq_true,Bool.not_true,Bool.false_eq_true,if_false,ne_eq,not_true_eq_false];rw[show (I6 0:DV)=I6 ((0:Nat):Int) from rfl,l]
   cases qW o.divs.els r.stops.els with
   |true=>rfl
   |false=>
    simp only[Bool.false_eq_true,if_false,yn,Nat.beq_refl,cond_true,pShr,zb,neqU,zq];by_cases h3:shrI r.cpls o.cpls.els.length=0
    ·by_cases h4:shrI r.off o.divs.els.length=0<;>simp[h3,h4]
    ·simp[h3]
  ·have e:(!((r.stops.els.length:Int)==(o.divs.els.length:Int)))=true:=by
    have:¬((r.stops.els.length:Int)=(o.divs.els.length:Int)):=by omega
    simp[this]
   simp[h1,h2,e]
 ·simp[h1]
theorem zfI{o:Org}(h:vR o=0):o.divs.els.length≤8∧0<o.divs.els.length:=by
 unfold vR at h;split at h
 ·cases h
 split at h
 ·cases h
 split at h
 ·contradiction
 split at h
 ·cases h
 split at h
 ·cases h
 omega
theorem zqf{β:Type}(o:Org)(K:List DV→Option β):bA 4 (some (SA (enO o))) K=K (enO o):=rfl
theorem zr9(o:Org):[atD (enO o) 0,atD (enO o) 1,atD (enO o) 2,atD (enO o) 3]=enO o:=rfl
theorem zol{β:Type}(r:Reg)(e:DV)(K:List DS→Option β):bT [some 3,none] (some (.tup [.agg (y5 r),.one e])) K=K [.agg (y5 r),.one e]:=rfl
theorem zhY(r:Reg):[atD (y5 r) 0,atD (y5 r) 1,atD (y5 r) 2]=y5 r:=rfl
def zbU(n:Nat):Int:=((2^n-1:Nat):Int)
def zm8(d:Divn):Int:=zbU d.stops.els.length
def enB(b:Nat→Nat):List DV:=[U8 (b 0:Int),U8 (b 1:Int),U8 (b 2:Int),U8 (b 3:Int),U8 (b 4:Int)]
def wz(b:Nat→Nat):Nat→List Divn→List Int
 |_,[]=>[]
 |i,d::r=>andI (b (i % 3):Int) (zm8 d)::wz b (i+1) r
def wM(o:Org)(b:Nat→Nat):Reg:=⟨grow (wz b 0 o.divs.els),andI (b 3:Int) (zbU o.cpls.els.length),andI (b 4:Int) (zbU o.divs.els.length)⟩
theorem l8(b:Nat→Nat)(hb:∀i,b i<256)(dv:Sl Divn)(hl:dv.els.length≤1000)(hs:∀d∈dv.els,d.stops.els.length≤60)(c0 c1:DV):∀(r:List Divn) (i:Nat) (acc:List Int),dv.els.drop i=r→acc.length=i→
  zP (zlN (enL 5 enV dv) (U8 (b 0:Int)) (U8 (b 1:Int)) (U8 (b 2:Int)) (U8 (b 3:Int)) (U8 (b 4:Int))) [I6 (i:Int),c0,c1] [ocL enU (grow acc)]=some (.exit 0,[c0,c1],[ocL enU (grow (acc++wz b i r))]):=by
 intro r
 induction r with
 |nil=>
  intro i acc h _;refine zz ?_;simp only[zlN,zx,xb,z6,zH,zl,zb,xC (yb h),zq,wz,List.append_nil];rfl
 |cons d r ih=>
  intro i acc h ha;have h1:=yH h;have hd:=hs d (Lz3 (yF h));have ea:pBin .add (I6 (i:Int)) (I6 1)=some (I6 ((i+1:Nat):Int)):=yS;have e1:pBin .rem (I6 (i:Int)) (I6 3)=some (I6 ((i % 3:Nat):Int)):=remN (b:=3) (by decide)
  have h3:i % 3<3:=Nat.mod_lt _ (by decide)
  have e2:jz 5 (I6 ((i % 3:Nat):Int))=some (i % 3):=zg6 (by omega)
  have e3:atD [U8 (b 0:Int),U8 (b 1:Int),U8 (b 2:Int),U8 (b 3:Int),U8 (b 4:Int)] (i % 3)=U8 (b (i % 3):Int):=by
   have:i % 3=0∨i % 3=1∨i % 3=2:=by omega
   rcases this with h|h|h<;>rw[h]<;>rfl
  have hbb:=hb (i % 3);have e4:yg .u64 (U8 (b (i % 3):Int))=some (U64 (b (i % 3):Int)):=qc (by omega)
  have e5:yg .u64 (I6 (d.stops.els.length:Int))=some (U64 (d.stops.els.length:Int)):=qc (by omega)
  have sh:yv true (U64 1) (U64 (d.stops.els.length:Int))=some (U64 ((2^d.stops.els.length:Nat):Int)):=zdf (by omega)
  have sb:pBin .sub (U64 ((2^d.stops.els.length:Nat):Int)) (U64 1)=some (U64 (zm8 d)):=sub1 (by omega)
  have ef:fits 8 ((grow acc).els.length+1)=true:=xp (by decide) (by rw[zK];omega)
  have body:zlN (enL 5 enV dv) (U8 (b 0:Int)) (U8 (b 1:Int)) (U8 (b 2:Int)) (U8 (b 3:Int)) (U8 (b 4:Int)) [I6 (i:Int),c0,c1] [ocL enU (grow acc)]=some (.normal,[I6 ((i+1:Nat):Int),c0,c1],[ocL enU (grow (acc++[andI (b (i % 3):Int) (zm8 d)]))]):=by
   rw[yT,←xA (f:=enU)];simp only[zlN,zx,xb,z6,zH,zl,zb,lt_i h1,zq,if_true,e1,e2,e3,e4,zR h,enV,xJ,wN,e5,sh,sb,xe,xD,List.length_cons,List.length_nil,ef,xP,ea,yN]
  rw[zS body,ih (i+1) _ (zN h) (by simp[ha])]
  simp[wz]
theorem t8(k:Nat)(o:Org)(b:Nat→Nat)(hb:∀i,b i<256)(hd:o.divs.els.length≤60)(hs:∀d∈o.divs.els,d.stops.els.length≤60)(hc:o.cpls.els.length≤60):D (k+1) 8 [SA (enO o),SA (enB b)]=some (SA (y5 (wM o b))):=by
 have h3:=hb 3;have h4:=hb 4;have e3:yg .u64 (U8 (b 3:Int))=some (U64 (b 3:Int)):=qc (by omega)
 have e4:yg .u64 (U8 (b 4:Int))=some (U64 (b 4:Int)):=qc (by omega)
 have f3:yg .u64 (I6 (o.cpls.els.length:Int))=some (U64 (o.cpls.els.length:Int)):=qc (by omega)
 have f4:yg .u64 (I6 (o.divs.els.length:Int))=some (U64 (o.divs.els.length:Int)):=qc (by omega)
 have s3:yv true (U64 1) (U64 (o.cpls.els.length:Int))=some (U64 ((2^o.cpls.els.length:Nat):Int)):=zdf (by omega)
 have s4:yv true (U64 1) (U64 (o.divs.els.length:Int))=some (U64 ((2^o.divs.els.length:Nat):Int)):=zdf (by omega)
 have g3:pBin .sub (U64 ((2^o.cpls.els.length:Nat):Int)) (U64 1)=some (U64 (zbU o.cpls.els.length)):=sub1 (by omega)
 have g4:pBin .sub (U64 ((2^o.divs.els.length:Nat):Int)) (U64 1)=some (U64 (zbU o.divs.els.length)):=sub1 (by omega)
 have n3:jz 5 (I6 3)=some 3:=rfl;have n4:jz 5 (I6 4)=some 4:=rfl;have l:=l8 b hb o.divs (by omega) hs (U64 (andI (b 3:Int) (zbU o.cpls.els.length))) (U64 (andI (b 4:Int) (zbU o.divs.els.length))) o.divs.els 0 [] rfl rfl
 rw[show ocL enU (grow ([]:List Int))=none from rfl,List.nil_append]at l
 unfold enO enB;rw[D8];unfold P8;simp only[n3,n4,zb,xJ,wN,e3,e4,zH,f3,f4,s3,s4,g3,g4,xe];rw[show (I6 0:DV)=I6 ((0:Nat):Int) from rfl,l]
 simp only[yn,Nat.beq_refl,cond_true,z6,zx,xb,qx];rfl
theorem q9(rs:List Rank):∀(l:List Boa) (i:Nat),(∀b∈l,b.stops.els.length≤3)→∀d∈vt rs i l,d.stops.els.length≤3
 | [],_,_,_,h=>by cases h
 |b::l,i,H,d,h=>by
  rcases List.mem_cons.1 h with rfl|h
  ·have:=H b (List.mem_cons_self ..);show (grow (wh rs (lowB b) (zbp b) 0 b.stops.els)).els.length≤3;rw[zK,um];exact this
  ·exact q9 rs l (i+1) (fun x hx=>H x (List.mem_cons_of_mem _ hx)) d h
theorem ziG(p:Pln)(hf:zdC p=true):(mk18 p).divs.els.length≤3∧(∀d∈(mk18 p).divs.els,d.stops.els.length≤3)∧(mk18 p).cpls.els.length≤3:=by
 obtain⟨f1,f2,f3,f4,f5,f6⟩:=kV hf;unfold mk18;refine⟨?_,?_,?_⟩
 ·simp only[zK,wP];exact f4
 ·simp only[zK];exact q9 _ _ _ f6
 ·simp only[zK,jk];exact f5
theorem zgy{β:Type}(r:Reg)(K:List DV→Option β):bA 3 (some (SA (y5 r))) K=K (y5 r):=rfl
theorem ze7(l:List (List DV)):appO (some []) l=some l:=by cases l<;>rfl
theorem setP{α:Type}{f:α→List DV}{st off:Nat}{l:List α}{i:Nat}{x x':α}{ds:List DV}(hx:l[i]? = some x)(hle:off+ds.length≤st)(h:(f x).take off++ds++(f x).drop (off+ds.length)=f x'):
  setO st (some (l.map f)) i off ds=some (some ((l.set i x').map f)):=by
 unfold setO;have hg:(l.map f)[i]? = some (f x):=by rw[Lz6,hx];rfl
 simp only[hg,Nat.ble_eq_true_of_le hle,cond_true,h,List.map_set]
end Go.Proofs.Tryz.Kn
end
section
namespace Go.Proofs.Tryz.Kn
open Go Go.CE Go.PE
structure Ctl where
 kind:Int
 div:Int
 idx:Int
deriving DecidableEq
def zZ(c:Ctl):List DV:=[I6 c.kind,I6 c.div,I6 c.idx]
theorem zhE(a b:Ctl):eqDs [1,1,1] [I6 a.kind,I6 a.div,I6 a.idx] [I6 b.kind,I6 b.div,I6 b.idx]=some (decide (a=b)):=by
 cases a with|mk r s t=>
 cases b with|mk r' s' t'=>
 simp only[eqDs,eqD,y1,cond_true,uZ];by_cases h1:r=r'
 ·by_cases h2:s=s'
  ·by_cases h3:t=t'
   ·simp[h1,h2,h3]
   ·have e3:(t==t')=false:=by simpa using h3
    simp[h1,h2,h3,e3]
  ·have e2:(s==s')=false:=by simpa using h2
   simp[h1,h2,e2]
 ·have e1:(r==r')=false:=by simpa using h1
  simp[h1,e1]
theorem l33(d:Ctl)(l:Sl Ctl)(hl:l.els.length≤9223372036854775807):∀(r:List Ctl) (i:Nat),l.els.drop i=r→
  zP (zlY (I6 (l.els.length:Int)) (enL 3 zZ l) (I6 d.kind) (I6 d.div) (I6 d.idx)) [I6 (i:Int)] []=some (found (wj (fun x=>decide (d=x)) r i)):=by
 intro r
 induction r with
 |nil=>
  intro i h;refine zz ?_;simp only[zlY,zx,zl,zb,xC (yb h),zq];rfl
 |cons x r ih=>
  intro i h;have h1:=yH h;have ea:pBin .add (I6 (i:Int)) (I6 1)=some (I6 ((i+1:Nat):Int)):=yS;have eq:=zhE d x;have body:zlY (I6 (l.els.length:Int)) (enL 3 zZ l) (I6 d.kind) (I6 d.div) (I6 d.idx) [I6 (i:Int)] []=some (if d=x then(.ret,[I6 (i:Int)],[]) else(.normal,[I6 ((i+1:Nat):Int)],[])):=by
   simp only[zlY,zx,zl,zb,lt_i h1,zq,if_true,zR h,zZ,xJ,wN,eq,ea];by_cases hz:d=x<;>simp[hz]
  by_cases hc:d=x
  ·rw[if_pos hc]at body;rw[zE body];simp[wj,hc,found]
  ·rw[if_neg hc]at body;rw[zS body,ih (i+1) (zN h)];simp[wj,hc]
theorem t33(k:Nat)(d:Ctl)(l:Sl Ctl)(hl:l.els.length≤9223372036854775807):D (k+1) 33 [S1 (enL 3 zZ l),SA (zZ d)]=some (S1 (I6 (match wj (fun x=>decide (d=x)) l.els 0 with|some i=>(i:Int)|none=>-1))):=by
 unfold zZ;rw[D33];unfold P33;have:=l33 d l hl l.els 0 rfl;unfold zZ at this;simp only[zH,zb];rw[show (I6 0:DV)=I6 ((0:Nat):Int) from rfl,this]
 cases wj (fun x=>decide (d=x)) l.els 0<;>rfl
theorem t14(k:Nat)(d:Ctl)(l:Sl Ctl)(hl:l.els.length≤9223372036854775807):D (k+2) 14 [S1 (enL 3 zZ l),SA (zZ d)]=some (S1 (Bo (l.els.any fun x=>decide (d=x)))):=by
 have:=t33 k d l hl;unfold zZ at this ⊢;rw[D14];unfold P14;rw[this,←wv (fun x=>decide (d=x)) l.els 0]
 cases wj (fun x=>decide (d=x)) l.els 0 with
 |none=>rfl
 |some i=>
  have:(0:Int)≤(i:Int):=by omega
  simp[this]
theorem l12(l:Sl Ctl)(hl:l.els.length≤1000000):∀(r:List Ctl) (i:Nat),l.els.drop i=r→
  zP (zl4 (I6 (l.els.length:Int)) (enL 3 zZ l) (enL 3 zZ l)) [I6 (i:Int)] []=some (.exit 0,[],[]):=by
 intro r
 induction r with
 |nil=>
  intro i h;refine zz ?_;simp only[zl4,zx,zl,zb,xC (yb h),zq];rfl
 |cons x r ih=>
  intro i h;have h1:=yH h;have ea:pBin .add (I6 (i:Int)) (I6 1)=some (I6 ((i+1:Nat):Int)):=yS;have eq:=zhE x x;have body:zl4 (I6 (l.els.length:Int)) (enL 3 zZ l) (enL 3 zZ l) [I6 (i:Int)] []=some (.normal,[I6 ((i+1:Nat):Int)],[]):=by
   simp only[zl4,zx,zl,zb,lt_i h1,zq,if_true,zR h,zZ,xJ,wN,eq,ea];simp
  rw[zS body,ih (i+1) (zN h)]
theorem t12(k:Nat)(l:Sl Ctl)(hl:l.els.length≤1000000):D (k+1) 12 [S1 (enL 3 zZ l),S1 (enL 3 zZ l)]=some (S1 (Bo true)):=by
 have:=l12 l hl l.els 0 rfl;rw[D12];unfold P12;simp only[zH,zb,yf,beq_self_eq_true,Bool.not_true,zq];rw[show (I6 0:DV)=I6 ((0:Nat):Int) from rfl,this]
 rfl
theorem l26(l:Sl Int)(hl:l.els.length≤1000000):∀(r:List Int) (i:Nat),l.els.drop i=r→
  zP (zl1 (I6 (l.els.length:Int)) (enL 1 enU l) (enL 1 enU l)) [I6 (i:Int)] []=some (.exit 0,[],[]):=by
 intro r
 induction r with
 |nil=>
  intro i h;refine zz ?_;simp only[zl1,zx,zl,zb,xC (yb h),zq];rfl
 |cons x r ih=>
  intro i h;have h1:=yH h;have ea:pBin .add (I6 (i:Int)) (I6 1)=some (I6 ((i+1:Nat):Int)):=yS;have body:zl1 (I6 (l.els.length:Int)) (enL 1 enU l) (enL 1 enU l) [I6 (i:Int)] []=some (.normal,[I6 ((i+1:Nat):Int)],[]):=by
   simp only[zl1,zx,zl,zb,lt_i h1,zq,if_true,zR h,xJ,neqU,beq_self_eq_true,Bool.not_true,ea];simp
  rw[zS body,ih (i+1) (zN h)]
theorem t26(k:Nat)(l:Sl Int)(hl:l.els.length≤1000000):D (k+1) 26 [S1 (enL 1 enU l),S1 (enL 1 enU l)]=some (S1 (Bo true)):=by
 have:=l26 l hl l.els 0 rfl;rw[D26];unfold P26;simp only[zH,zb,yf,beq_self_eq_true,Bool.not_true,zq];rw[show (I6 0:DV)=I6 ((0:Nat):Int) from rfl,this]
 rfl
theorem t13(k:Nat)(r:Reg)(hr:r.stops.els.length≤1000000):D (k+2) 13 [SA (y5 r),SA (y5 r)]=some (S1 (Bo true)):=by
 have c:=t26 k r.stops hr;unfold y5;rw[D13];unfold P13;simp only[c,yc,zq,if_true,xx,zb,beq_self_eq_true]
def bit(a:Int)(i:Nat):Bool:=andI (shrI a i) 1==1
def vi(a k d:Int):Nat→Nat→List Ctl
 |_,0=>[]
 |i,m+1=>(if bit a i=true then[⟨k,d,(i:Int)⟩] else[])++vi a k d (i+1) m
theorem xt(a k d:Int):∀(m i:Nat),(vi a k d i m).length≤m
 |0,_=>LzB _
 |m+1,i=>by
  have:=xt a k d m (i+1);rw[vi,List.length_append];split
  ·simp only[List.length_cons,List.length_nil];omega
  ·simp only[List.length_nil];omega
theorem qh{a k d:Int}:∀{m i:Nat} {c:Ctl},c∈vi a k d i m→c.kind=k∧c.div=d∧∃j:Nat,c.idx=(j:Int)∧j<i+m
 |0,_,_,h=>by cases h
 |m+1,i,c,h=>by
  rw[vi,List.mem_append]at h;rcases h with h|h
  ·split at h
   ·rw[List.mem_singleton]at h;subst h;exact⟨rfl,rfl,i,rfl,by omega⟩
   ·cases h
  ·obtain⟨h1,h2,j,h3,h4⟩:=qh h;exact⟨h1,h2,j,h3,by omega⟩
theorem zcs{F:List DV→List OC→Option PX}{a k d:Int}{n e:Nat}
  (hs:∀(i:Nat) (acc:List Ctl),i<n→acc.length≤1000000→F [I6 (i:Int)] [ocL zZ (grow acc)]=some (.normal,[I6 ((i+1:Nat):Int)],[ocL zZ (grow (if bit a i=true then acc++[⟨k,d,(i:Int)⟩] else acc))]))
  (he:∀acc:List Ctl,F [I6 (n:Int)] [ocL zZ (grow acc)]=some (.exit e,[],[ocL zZ (grow acc)])):
  ∀(m i:Nat) (acc:List Ctl),i+m=n→acc.length+m≤1000000→zP F [I6 (i:Int)] [ocL zZ (grow acc)]=some (.exit e,[],[ocL zZ (grow (acc++vi a k d i m))]):=by
 intro m
 induction m with
 |zero=>
  intro i acc hi _;have hi:i=n:=by omega
  subst hi;rw[zz (he acc)];simp[vi]
 |succ m ih=>
  intro i acc hi ha;rw[zS (hs i acc (by omega) (by omega)),ih (i+1) _ (by omega) (by split<;>(try simp only[List.length_append,List.length_cons,List.length_nil])<;>omega),vi]
  split<;>simp
theorem eqlU(a b:Int):pBin .eql (U64 a) (U64 b)=some (Bo (a==b)):=xx _ _ _
def wa:List Divn→List Int→Nat→List Ctl
 |d::ds,s::ss,i=>vi s 1 (i:Int) 0 d.stops.els.length++wa ds ss (i+1)
 |_,_,_=>[]
def ctls(o:Org)(r:Reg):List Ctl:=wa o.divs.els r.stops.els 0++vi r.cpls 2 0 0 o.cpls.els.length++vi r.off 3 0 0 o.divs.els.length
theorem b30(st:Sl Int)(s:Int)(i0:Nat)(h':st.els[i0]? = some s)(n:Nat)(hn:n≤1000)(m i:Nat)(acc:List Ctl)(hi:i+m=n)(ha:acc.length+m≤1000000):
  zP (zfg (I6 (n:Int)) (enL 1 enU st) [I6 (i0:Int)]) [I6 (i:Int)] [ocL zZ (grow acc)]=some (.exit 2,[],[ocL zZ (grow (acc++vi s 1 (i0:Int) i m))]):=by
 have ix:pIdx 1 (enL 1 enU st) (I6 (i0:Int))=some [U64 s]:=by rw[kC,h'];rfl
 refine zcs (fun i acc hi ha=>?_) (fun acc=>?_) m i acc hi ha
 ·have ea:pBin .add (I6 (i:Int)) (I6 1)=some (I6 ((i+1:Nat):Int)):=yS;have ef:fits 24 ((grow acc).els.length+1)=true:=xp (by decide) (by rw[zK];omega)
  by_cases hb:bit s i=true
  ·rw[if_pos hb,yT,←xA (f:=zZ)];unfold bit at hb;simp only[zfg,zx,z6,zl,zb,lt_i hi,zq,if_true,ix,xJ,pShr,xe,eqlU,hb,xD,yN,ef,xP,ea,zZ]
  ·rw[if_neg hb];unfold bit at hb;have hb:=(Bool.not_eq_true _).mp hb;simp only[zfg,zx,z6,zl,zb,lt_i hi,zq,if_true,ix,xJ,pShr,xe,eqlU,hb,Bool.false_eq_true,if_false,ea]
 ·have:=xC (LzB n);simp only[zfg,zx,z6,zl,zb,this,zq,Bool.false_eq_true,if_false]
theorem c30(a:Int)(n:Nat)(hn:n≤1000)(m i:Nat)(acc:List Ctl)(hi:i+m=n)(ha:acc.length+m≤1000000):
  zP (zff (I6 (n:Int)) (U64 a)) [I6 (i:Int)] [ocL zZ (grow acc)]=some (.exit 4,[],[ocL zZ (grow (acc++vi a 2 0 i m))]):=by
 refine zcs (fun i acc hi ha=>?_) (fun acc=>?_) m i acc hi ha
 ·have ea:pBin .add (I6 (i:Int)) (I6 1)=some (I6 ((i+1:Nat):Int)):=yS;have ef:fits 24 ((grow acc).els.length+1)=true:=xp (by decide) (by rw[zK];omega)
  by_cases hb:bit a i=true
  ·rw[if_pos hb,yT,←xA (f:=zZ)];unfold bit at hb;simp only[zff,zx,z6,zl,zb,lt_i hi,zq,if_true,pShr,xe,eqlU,hb,xD,yN,ef,xP,ea,zZ]
  ·rw[if_neg hb];unfold bit at hb;have hb:=(Bool.not_eq_true _).mp hb;simp only[zff,zx,z6,zl,zb,lt_i hi,zq,if_true,pShr,xe,eqlU,hb,Bool.false_eq_true,if_false,ea]
 ·have:=xC (LzB n);simp only[zff,zx,z6,zl,zb,this,zq,Bool.false_eq_true,if_false]
theorem f30(a:Int)(n:Nat)(hn:n≤1000)(m i:Nat)(acc:List Ctl)(hi:i+m=n)(ha:acc.length+m≤1000000):
  zP (zfe (I6 (n:Int)) (U64 a)) [I6 (i:Int)] [ocL zZ (grow acc)]=some (.exit 6,[],[ocL zZ (grow (acc++vi a 3 0 i m))]):=by
 refine zcs (fun i acc hi ha=>?_) (fun acc=>?_) m i acc hi ha
 ·have ea:pBin .add (I6 (i:Int)) (I6 1)=some (I6 ((i+1:Nat):Int)):=yS;have ef:fits 24 ((grow acc).els.length+1)=true:=xp (by decide) (by rw[zK];omega)
  by_cases hb:bit a i=true
  ·rw[if_pos hb,yT,←xA (f:=zZ)];unfold bit at hb;simp only[zfe,zx,z6,zl,zb,lt_i hi,zq,if_true,pShr,xe,eqlU,hb,xD,yN,ef,xP,ea,zZ]
  ·rw[if_neg hb];unfold bit at hb;have hb:=(Bool.not_eq_true _).mp hb;simp only[zfe,zx,z6,zl,zb,lt_i hi,zq,if_true,pShr,xe,eqlU,hb,Bool.false_eq_true,if_false,ea]
 ·have:=xC (LzB n);simp only[zfe,zx,z6,zl,zb,this,zq,Bool.false_eq_true,if_false]
theorem l30(dv:Sl Divn)(hd:dv.els.length≤1000)(hs:∀d∈dv.els,d.stops.els.length≤60)(st:Sl Int):∀(ds:List Divn) (ss:List Int) (i:Nat) (acc:List Ctl),dv.els.drop i=ds→st.els.drop i=ss→ss.length=ds.length→i≤1000→acc.length≤100*i→
  ∃acc':List Ctl,acc'.length≤100000∧acc'=acc++wa ds ss i∧zP (zlZ (I6 (dv.els.length:Int)) (enL 5 enV dv) (enL 1 enU st)) [I6 (i:Int)] [ocL zZ (grow acc)]=some (.exit 0,[],[ocL zZ (grow acc')]):=by
 intro ds
 induction ds with
 |nil=>
  intro ss i acc h h' hl hi ha;refine⟨acc,by omega,by simp[wa],zz ?_⟩
  simp only[zlZ,zx,z6,zl,zb,xC (yb h),zq,Bool.false_eq_true,if_false]
 |cons d ds ih=>
  intro ss i acc h h' hl hi ha;have h1:=yH h;cases ss with
  |nil=>simp at hl
  |cons s ss=>
   have hdm:=hs d (Lz3 (yF h));have ea:pBin .add (I6 (i:Int)) (I6 1)=some (I6 ((i+1:Nat):Int)):=yS;have inn:=b30 st s i (yF h') d.stops.els.length (by omega) d.stops.els.length 0 acc (by omega) (by omega)
   have len:=xt s 1 (i:Int) d.stops.els.length 0;have body:zlZ (I6 (dv.els.length:Int)) (enL 5 enV dv) (enL 1 enU st) [I6 (i:Int)] [ocL zZ (grow acc)]=some (.normal,[I6 ((i+1:Nat):Int)],[ocL zZ (grow (acc++vi s 1 (i:Int) 0 d.stops.els.length))]):=by
    simp only[zlZ,zx,z6,zl,zb,lt_i h1,zq,if_true,zR h,enV,xJ,wN,zH];rw[show (I6 0:DV)=I6 ((0:Nat):Int) from rfl,inn]
    simp only[yn,Nat.beq_refl,cond_true,ea,zb,z6]
   obtain⟨acc',q1,q2,q3⟩:=ih ss (i+1) (acc++vi s 1 (i:Int) 0 d.stops.els.length) (zN h) (zN h') (by simpa using hl) (by omega) (by rw[List.length_append];omega)
   exact⟨acc',q1,by rw[q2,wa,List.append_assoc],by rw[zS body,q3]⟩
theorem t30(k:Nat)(o:Org)(r:Reg)(hd:o.divs.els.length≤1000)(hs:∀d∈o.divs.els,d.stops.els.length≤60)(hc:o.cpls.els.length≤1000)(hl:r.stops.els.length=o.divs.els.length):
  D (k+1) 30 [SA (enO o),SA (y5 r)]=some (S1 (enL 3 zZ (grow (ctls o r)))):=by
 obtain⟨acc,q1,q2,q3⟩:=l30 o.divs hd hs r.stops o.divs.els r.stops.els 0 [] rfl rfl hl (by omega) (by simp)
 have c:=c30 r.cpls o.cpls.els.length hc o.cpls.els.length 0 acc (by omega) (by omega)
 have lc:=xt r.cpls 2 0 o.cpls.els.length 0;have f:=f30 r.off o.divs.els.length hd o.divs.els.length 0 (acc++vi r.cpls 2 0 0 o.cpls.els.length) (by omega) (by rw[List.length_append];omega)
 unfold enO y5;rw[D30];unfold P30;simp only[zH,zb];rw[show (I6 0:DV)=I6 ((0:Nat):Int) from rfl,show ([none]:List OC)=[ocL zZ (grow ([]:List Ctl))] from rfl,q3]
 simp only[yn,Nat.beq_refl,cond_true,z6];rw[c];simp only[yn,Nat.beq_refl,cond_true,z6];rw[f];simp only[yn,Nat.beq_refl,cond_true,z6,qx];rw[q2,List.nil_append];rfl
theorem b11(s:Int)(i0:Nat)(n:Nat)(hn:n≤1000)(m i:Nat)(acc:List Ctl)(hi:i+m=n)(ha:acc.length+m≤1000000):
  zP (zfm (I6 (n:Int)) [U64 s] [I6 (i0:Int)]) [I6 (i:Int)] [ocL zZ (grow acc)]=some (.exit 0,[],[ocL zZ (grow (acc++vi s 1 (i0:Int) i m))]):=by
 refine zcs (fun i acc hi ha=>?_) (fun acc=>?_) m i acc hi ha
 ·have ea:pBin .add (I6 (i:Int)) (I6 1)=some (I6 ((i+1:Nat):Int)):=yS;have ef:fits 24 ((grow acc).els.length+1)=true:=xp (by decide) (by rw[zK];omega)
  have ec:yg .u64 (I6 (i:Int))=some (U64 (i:Int)):=qc (by omega)
  by_cases hb:bit s i=true
  ·rw[if_pos hb,yT,←xA (f:=zZ)];unfold bit at hb;simp only[zfm,zx,z6,zl,zb,lt_i hi,zq,if_true,ec,xJ,pShr,xe,eqlU,hb,xD,yN,ef,xP,ea,zZ]
  ·rw[if_neg hb];unfold bit at hb;have hb:=(Bool.not_eq_true _).mp hb;simp only[zfm,zx,z6,zl,zb,lt_i hi,zq,if_true,ec,xJ,pShr,xe,eqlU,hb,Bool.false_eq_true,if_false,ea]
 ·have:=xC (LzB n);simp only[zfm,zx,z6,zl,zb,this,zq,Bool.false_eq_true,if_false]
theorem c11(a:Int)(n:Nat)(hn:n≤1000)(m i:Nat)(acc:List Ctl)(hi:i+m=n)(ha:acc.length+m≤1000000):
  zP (zfl (I6 (n:Int)) (U64 a)) [I6 (i:Int)] [ocL zZ (grow acc)]=some (.exit 0,[],[ocL zZ (grow (acc++vi a 2 0 i m))]):=by
 refine zcs (fun i acc hi ha=>?_) (fun acc=>?_) m i acc hi ha
 ·have ea:pBin .add (I6 (i:Int)) (I6 1)=some (I6 ((i+1:Nat):Int)):=yS;have ef:fits 24 ((grow acc).els.length+1)=true:=xp (by decide) (by rw[zK];omega)
  have ec:yg .u64 (I6 (i:Int))=some (U64 (i:Int)):=qc (by omega)
  by_cases hb:bit a i=true
  ·rw[if_pos hb,yT,←xA (f:=zZ)];unfold bit at hb;simp only[zfl,zx,z6,zl,zb,lt_i hi,zq,if_true,ec,pShr,xe,eqlU,hb,xD,yN,ef,xP,ea,zZ]
  ·rw[if_neg hb];unfold bit at hb;have hb:=(Bool.not_eq_true _).mp hb;simp only[zfl,zx,z6,zl,zb,lt_i hi,zq,if_true,ec,pShr,xe,eqlU,hb,Bool.false_eq_true,if_false,ea]
 ·have:=xC (LzB n);simp only[zfl,zx,z6,zl,zb,this,zq,Bool.false_eq_true,if_false]
theorem f11(a:Int)(n:Nat)(hn:n≤1000)(m i:Nat)(acc:List Ctl)(hi:i+m=n)(ha:acc.length+m≤1000000):
  zP (zfk (I6 (n:Int)) (U64 a)) [I6 (i:Int)] [ocL zZ (grow acc)]=some (.exit 0,[],[ocL zZ (grow (acc++vi a 3 0 i m))]):=by
 refine zcs (fun i acc hi ha=>?_) (fun acc=>?_) m i acc hi ha
 ·have ea:pBin .add (I6 (i:Int)) (I6 1)=some (I6 ((i+1:Nat):Int)):=yS;have ef:fits 24 ((grow acc).els.length+1)=true:=xp (by decide) (by rw[zK];omega)
  have ec:yg .u64 (I6 (i:Int))=some (U64 (i:Int)):=qc (by omega)
  by_cases hb:bit a i=true
  ·rw[if_pos hb,yT,←xA (f:=zZ)];unfold bit at hb;simp only[zfk,zx,z6,zl,zb,lt_i hi,zq,if_true,ec,pShr,xe,eqlU,hb,xD,yN,ef,xP,ea,zZ]
  ·rw[if_neg hb];unfold bit at hb;have hb:=(Bool.not_eq_true _).mp hb;simp only[zfk,zx,z6,zl,zb,lt_i hi,zq,if_true,ec,pShr,xe,eqlU,hb,Bool.false_eq_true,if_false,ea]
 ·have:=xC (LzB n);simp only[zfk,zx,z6,zl,zb,this,zq,Bool.false_eq_true,if_false]
theorem l11(dv:Sl Divn)(hd:dv.els.length≤1000)(hs:∀d∈dv.els,d.stops.els.length≤60)(st:Sl Int):∀(ds:List Divn) (ss:List Int) (i:Nat) (acc:List Ctl),dv.els.drop i=ds→st.els.drop i=ss→ss.length=ds.length→i≤1000→acc.length≤100*i→
  ∃acc':List Ctl,acc'.length≤100000∧acc'=acc++wa ds ss i∧zP (zl5 (I6 (dv.els.length:Int)) (enL 5 enV dv) (enL 1 enU st)) [I6 (i:Int)] [ocL zZ (grow acc)]=some (.exit 0,[],[ocL zZ (grow acc')]):=by
 intro ds
 induction ds with
 |nil=>
  intro ss i acc h h' hl hi ha;refine⟨acc,by omega,by simp[wa],zz ?_⟩
  simp only[zl5,zx,z6,zl,zb,xC (yb h),zq,Bool.false_eq_true,if_false]
 |cons d ds ih=>
  intro ss i acc h h' hl hi ha;have h1:=yH h;cases ss with
  |nil=>simp at hl
  |cons s ss=>
   have hdm:=hs d (Lz3 (yF h));have ea:pBin .add (I6 (i:Int)) (I6 1)=some (I6 ((i+1:Nat):Int)):=yS;have inn:=b11 s i d.stops.els.length (by omega) d.stops.els.length 0 acc (by omega) (by omega)
   have len:=xt s 1 (i:Int) d.stops.els.length 0;have body:zl5 (I6 (dv.els.length:Int)) (enL 5 enV dv) (enL 1 enU st) [I6 (i:Int)] [ocL zZ (grow acc)]=some (.normal,[I6 ((i+1:Nat):Int)],[ocL zZ (grow (acc++vi s 1 (i:Int) 0 d.stops.els.length))]):=by
    simp only[zl5,zx,z6,zl,zb,lt_i h1,zq,if_true,zR h,zR h',enV,xJ,wN,zH];rw[show (I6 0:DV)=I6 ((0:Nat):Int) from rfl,inn]
    simp only[yn,Nat.beq_refl,cond_true,ea,zb,z6]
   obtain⟨acc',q1,q2,q3⟩:=ih ss (i+1) (acc++vi s 1 (i:Int) 0 d.stops.els.length) (zN h) (zN h') (by simpa using hl) (by omega) (by rw[List.length_append];omega)
   exact⟨acc',q1,by rw[q2,wa,List.append_assoc],by rw[zS body,q3]⟩
theorem t11(k:Nat)(o:Org)(r:Reg)(hd:o.divs.els.length≤1000)(hs:∀d∈o.divs.els,d.stops.els.length≤60)(hc:o.cpls.els.length≤1000)(hl:r.stops.els.length=o.divs.els.length):
  D (k+1) 11 [SA (enO o),SA (y5 r)]=some (S1 (enL 3 zZ (grow (ctls o r)))):=by
 obtain⟨acc,q1,q2,q3⟩:=l11 o.divs hd hs r.stops o.divs.els r.stops.els 0 [] rfl rfl hl (by omega) (by simp)
 have c:=c11 r.cpls o.cpls.els.length hc o.cpls.els.length 0 acc (by omega) (by omega)
 have lc:=xt r.cpls 2 0 o.cpls.els.length 0;have f:=f11 r.off o.divs.els.length hd o.divs.els.length 0 (acc++vi r.cpls 2 0 0 o.cpls.els.length) (by omega) (by rw[List.length_append];omega)
 unfold enO y5;rw[D11];unfold P11;simp only[zH,zb];rw[show (I6 0:DV)=I6 ((0:Nat):Int) from rfl,show ([none]:List OC)=[ocL zZ (grow ([]:List Ctl))] from rfl,q3]
 simp only[yn,Nat.beq_refl,cond_true,z6];rw[c];simp only[yn,Nat.beq_refl,cond_true,z6];rw[f];simp only[yn,Nat.beq_refl,cond_true,z6,qx];rw[q2,List.nil_append];rfl
def zp9(c:Ctl)(n:Nat):Prop:=
 (c.kind=1∧∃i j:Nat,c.div=(i:Int)∧c.idx=(j:Int)∧i<n∧j≤60)∨(c.kind=2∧∃j:Nat,c.idx=(j:Int)∧j≤60)∨(c.kind=3∧∃j:Nat,c.idx=(j:Int)∧j≤60)
theorem zb2:∀(ds:List Divn) (ss:List Int) (i:Nat),(∀d∈ds,d.stops.els.length≤60)→∀c∈wa ds ss i,c.kind=1∧∃a j:Nat,c.div=(a:Int)∧c.idx=(j:Int)∧a<i+ss.length∧j≤60
 | [],_,_,_,_,h=>by cases h
 |_::_,[],_,_,_,h=>by cases h
 |d::ds,s::ss,i,hs,c,h=>by
  rw[wa,List.mem_append]at h;rcases h with h|h
  ·obtain⟨h1,h2,j,h3,h4⟩:=qh h;have:=hs d (List.mem_cons_self ..);exact⟨h1,i,j,h2,h3,by simp only[List.length_cons];omega,by omega⟩
  ·obtain⟨h1,a,j,h2,h3,h4,h5⟩:=zb2 ds ss (i+1) (fun x hx=>hs x (List.mem_cons_of_mem _ hx)) c h
   exact⟨h1,a,j,h2,h3,by simp only[List.length_cons];omega,h5⟩
theorem zlq{o:Org}{r:Reg}(hd:o.divs.els.length≤60)(hs:∀d∈o.divs.els,d.stops.els.length≤60)(hc:o.cpls.els.length≤60):∀c∈ctls o r,zp9 c r.stops.els.length:=by
 intro c h;unfold ctls at h;rw[List.mem_append,List.mem_append]at h;rcases h with (h|h)|h
 ·obtain⟨h1,a,j,h2,h3,h4,h5⟩:=zb2 _ _ _ hs c h;exact .inl ⟨h1,a,j,h2,h3,by omega,h5⟩
 ·obtain⟨h1,_,j,h3,h4⟩:=qh h;exact .inr (.inl ⟨h1,j,h3,by omega⟩)
 ·obtain⟨h1,_,j,h3,h4⟩:=qh h;exact .inr (.inr ⟨h1,j,h3,by omega⟩)
def pw(c:Ctl):Int:=((2^c.idx.toNat:Nat):Int)
def ke(l:List Int)(cp off:Int)(c:Ctl):Reg:=
 if c.kind=1 then⟨some (l.set c.div.toNat (jd ((l[c.div.toNat]?).getD 0) (pw c))),cp,off⟩ else if c.kind=2 then⟨some l,jd cp (pw c),off⟩ else⟨some l,cp,jd off (pw c)⟩
theorem t31(k:Nat)(l:List Int)(cp off:Int)(h2:l.length≤1000)(c:Ctl)(hc:zp9 c l.length):D (k+1) 31 [SA (y5 ⟨some l,cp,off⟩),SA (zZ c)]=some (SA (y5 (ke l cp off c))):=by
 have ef:fits 8 (lenO (some [])+(l.map enU).length)=true:=xp (by decide) (by simp;omega)
 obtain⟨kd,dv,ix⟩:=c;unfold y5 zZ;rw[D31];unfold P31;simp only[zer,Option.isNone_some,zb,zq,Bool.false_eq_true,if_false,zch,yD,ef,xP,xx,ze7];rcases hc with⟨h1,i,j,h3,h4,h5,h6⟩|⟨h1,j,h4,h6⟩|⟨h1,j,h4,h6⟩
 ·simp only at h1 h3 h4;subst h1 h3 h4;obtain⟨s,hs⟩:∃s,l[i]? = some s:=⟨_,Lz5 h5⟩;have e1:jy (some (l.map enU)) (I6 (i:Int))=some i:=zax (by rw[List.length_map];exact h5)
  have e2:nthO (some (l.map enU)) i=some [U64 s]:=by rw[zaC,hs];rfl
  have e3:yv true (U64 1) (I6 (j:Int))=some (U64 ((2^j:Nat):Int)):=zdf (by omega)
  have e4:setO 1 (some (l.map enU)) i 0 [U64 (jd s ((2^j:Nat):Int))]=some (some ((l.set i (jd s ((2^j:Nat):Int))).map enU)):=setP hs (Lz4 rfl) rfl;simp only[beq_self_eq_true,if_true,e1,zb,e2,xJ,e3,we,e4,ke,pw,Int.toNat_natCast,hs,Option.getD_some,jj,xZ]
 ·simp only at h1 h4;subst h1 h4;have e3:yv true (U64 1) (I6 (j:Int))=some (U64 ((2^j:Nat):Int)):=zdf (by omega)
  have q:((2:Int)==1)=false:=rfl;have q2:¬((2:Int)=1):=by decide
  simp only[q,Bool.false_eq_true,if_false,beq_self_eq_true,if_true,zb,e3,we,ke,q2,pw,Int.toNat_natCast,jj,xZ]
 ·simp only at h1 h4;subst h1 h4;have e3:yv true (U64 1) (I6 (j:Int))=some (U64 ((2^j:Nat):Int)):=zdf (by omega)
  have q:((3:Int)==1)=false:=rfl;have q':((3:Int)==2)=false:=rfl;have q2:¬((3:Int)=1):=by decide
  have q3:¬((3:Int)=2):=by decide
  simp only[q,q',Bool.false_eq_true,if_false,beq_self_eq_true,if_true,zb,e3,we,ke,q2,q3,pw,Int.toNat_natCast,jj,xZ]
theorem t15(k:Nat)(l:List Int)(cp off:Int)(h2:l.length≤1000)(c:Ctl)(hc:zp9 c l.length):D (k+1) 15 [SA (y5 ⟨some l,cp,off⟩),SA (zZ c)]=some (SA (y5 (ke l cp off c))):=by
 have ef:fits 8 (lenO (some [])+(l.map enU).length)=true:=xp (by decide) (by simp;omega)
 obtain⟨kd,dv,ix⟩:=c;unfold y5 zZ;rw[D15];unfold P15;simp only[zer,Option.isNone_some,zb,zq,Bool.false_eq_true,if_false,zch,yD,ef,xP,xx,ze7];rcases hc with⟨h1,i,j,h3,h4,h5,h6⟩|⟨h1,j,h4,h6⟩|⟨h1,j,h4,h6⟩
 ·simp only at h1 h3 h4;subst h1 h3 h4;obtain⟨s,hs⟩:∃s,l[i]? = some s:=⟨_,Lz5 h5⟩;have e1:jy (some (l.map enU)) (I6 (i:Int))=some i:=zax (by rw[List.length_map];exact h5)
  have e2:nthO (some (l.map enU)) i=some [U64 s]:=by rw[zaC,hs];rfl
  have ec:yg .u64 (I6 (j:Int))=some (U64 (j:Int)):=qc (by omega)
  have e3:yv true (U64 1) (U64 (j:Int))=some (U64 ((2^j:Nat):Int)):=zdf (by omega)
  have e4:setO 1 (some (l.map enU)) i 0 [U64 (jd s ((2^j:Nat):Int))]=some (some ((l.set i (jd s ((2^j:Nat):Int))).map enU)):=setP hs (Lz4 rfl) rfl;simp only[beq_self_eq_true,if_true,e1,zb,e2,xJ,ec,e3,we,e4,ke,pw,Int.toNat_natCast,hs,Option.getD_some,jj,xZ]
 ·simp only at h1 h4;subst h1 h4;have ec:yg .u64 (I6 (j:Int))=some (U64 (j:Int)):=qc (by omega)
  have e3:yv true (U64 1) (U64 (j:Int))=some (U64 ((2^j:Nat):Int)):=zdf (by omega)
  have q:((2:Int)==1)=false:=rfl;have q2:¬((2:Int)=1):=by decide
  simp only[q,Bool.false_eq_true,if_false,beq_self_eq_true,if_true,zb,ec,e3,we,ke,q2,pw,Int.toNat_natCast,jj,xZ]
 ·simp only at h1 h4;subst h1 h4;have ec:yg .u64 (I6 (j:Int))=some (U64 (j:Int)):=qc (by omega)
  have e3:yv true (U64 1) (U64 (j:Int))=some (U64 ((2^j:Nat):Int)):=zdf (by omega)
  have q:((3:Int)==1)=false:=rfl;have q':((3:Int)==2)=false:=rfl;have q2:¬((3:Int)=1):=by decide
  have q3:¬((3:Int)=2):=by decide
  simp only[q,q',Bool.false_eq_true,if_false,beq_self_eq_true,if_true,zb,ec,e3,we,ke,q2,q3,pw,Int.toNat_natCast,jj,xZ]
def qn(o:Org):List Reg→Int
 | []=>0
 |r::l=>if jD o r≠0 then jD o r else qn o l
theorem l29(k:Nat)(o:Org)(ho:o.ok)(l:Sl Reg)(hl:l.els.length≤9223372036854775807):∀(r:List Reg) (i:Nat),l.els.drop i=r→
  zP (zl0 (D (k+10)) (I6 (l.els.length:Int)) (enL 3 y5 l) (St o.name) (enL 6 enR o.ranks) (enL 5 enV o.divs) (enL 5 enC o.cpls)) [I6 (i:Int)] []=some (errX 0 (qn o r)):=by
 intro r
 induction r with
 |nil=>
  intro i h;refine zz ?_;simp only[zl0,zx,zl,zb,xC (yb h),zq];rfl
 |cons x r ih=>
  intro i h;have h1:=yH h;have ea:pBin .add (I6 (i:Int)) (I6 1)=some (I6 ((i+1:Nat):Int)):=yS;have c:=t18 k o ho x;simp only[enO,y5]at c;have body:zl0 (D (k+10)) (I6 (l.els.length:Int)) (enL 3 y5 l) (St o.name) (enL 6 enR o.ranks) (enL 5 enV o.divs) (enL 5 enC o.cpls) [I6 (i:Int)] [] =
    some (if jD o x≠0 then(.ret,[I6 (jD o x)],[]) else(.normal,[I6 ((i+1:Nat):Int)],[])):=by
   simp only[zl0,zx,zl,zb,lt_i h1,zq,if_true,zR h,y5,xJ,wN,c,yc,yf,ea];by_cases hz:jD o x=0<;>simp[hz]
  unfold qn;by_cases a1:jD o x≠0
  ·rw[if_pos a1]at body ⊢;rw[zE body];unfold errX;rw[if_pos a1]
  rw[if_neg a1]at body ⊢;rw[zS body,ih (i+1) (zN h)]
def zcI(o:Org)(l:List Reg):Int:=if vR o≠0 then vR o else qn o l
theorem t29(k:Nat)(o:Org)(ho:o.ok)(l:Sl Reg)(hl:l.els.length≤9223372036854775807):D (k+11) 29 [SA (enO o),S1 (enL 3 y5 l)]=some (S1 (I6 (zcI o l.els))):=by
 have c:=t17 (k+1) o ho;have ll:=l29 k o ho l hl l.els 0 rfl;unfold enO at c ⊢;rw[D29];unfold P29 zcI;simp only[c,yc,yf,zb,zq,zH];by_cases h1:vR o=0
 ·rw[show (I6 0:DV)=I6 ((0:Nat):Int) from rfl,ll]
  unfold errX;by_cases h4:qn o l.els=0<;>simp[h1,h4]
 ·simp[h1]
theorem zoH:((List.range 256).all fun x=>[0,1,2,3].all fun n=>shrI (andI (x:Int) (zbU n)) n==0)=true:=by kernel_rfl
theorem zaQ{x n:Nat}(hx:x<256)(hn:n≤3):shrI (andI (x:Int) (zbU n)) n=0:=by
 have h:=List.all_eq_true.1 (List.all_eq_true.1 zoH x (List.mem_range.2 hx)) n (by
  have:n=0∨n=1∨n=2∨n=3:=by omega
  rcases this with rfl|rfl|rfl|rfl<;>simp)
 simpa using h
theorem j5(b:Nat→Nat):∀(l:List Divn) (i:Nat),(wz b i l).length=l.length
 | [],_=>rfl
 |d::l,i=>by simp[wz,j5 b l (i+1)]
theorem zci(b:Nat→Nat)(hb:∀i,b i<256):∀(l:List Divn) (i:Nat),(∀d∈l,d.stops.els.length≤3)→qW l (wz b i l)=false
 | [],_,_=>rfl
 |d::l,i,h=>by
  rw[wz,qW,show zm8 d=zbU d.stops.els.length from rfl,zaQ (hb _) (h d (List.mem_cons_self ..)),zci b hb l (i+1) fun x hx=>h x (List.mem_cons_of_mem _ hx)]
  rfl
theorem zel{o:Org}(h:vR o=0)(b:Nat→Nat)(hb:∀i,b i<256)(hd:o.divs.els.length≤3)(hs:∀d∈o.divs.els,d.stops.els.length≤3)(hc:o.cpls.els.length≤3):jD o (wM o b)=0:=by
 unfold jD wM;simp only[zK,j5,zci b hb _ 0 hs,zaQ (hb 3) hc,zaQ (hb 4) hd];rw[if_neg (by rw[h];simp)]
 simp
theorem zqd{β:Type}(l:DV)(e:DV)(K:List DS→Option β):bT [none,none] (some (.tup [.one l,.one e])) K=K [.one l,.one e]:=rfl
theorem t9(k:Nat)(o:Org)(ho:o.ok)(r:Reg)(hd:o.divs.els.length≤1000)(hs:∀d∈o.divs.els,d.stops.els.length≤60)(hc:o.cpls.els.length≤1000)(hl:r.stops.els.length=o.divs.els.length)(he:zcI o [r]=0):
  D (k+12) 9 [SA (enO o),SA (y5 r)]=some (.tup [.one (enL 3 zZ (grow (ctls o r))),.one (I6 0)]):=by
 have c:=t29 k o ho (some [r]) (by simp)
 have cc:=t30 (k+10) o r hd hs hc hl;rw[yD,he,xZ]at c;simp only[List.map_cons,List.map_nil]at c;unfold enO y5 at c cc ⊢;rw[D9];unfold P9;simp only[c,zqh,yf,zb,zq,beq_self_eq_true,Bool.not_true,Bool.false_eq_true,if_false,cc,yc]
def zl9:Reg:=⟨none,0,0⟩
theorem t10(k:Nat)(o:Org)(ho:o.ok)(l:List Int)(cp off:Int)(c:Ctl)(hd:o.divs.els.length≤60)(hs:∀d∈o.divs.els,d.stops.els.length≤60)(hc:o.cpls.els.length≤60)(hl:l.length=o.divs.els.length)(he:zcI o [⟨some l,cp,off⟩]=0):
  D (k+12) 10 [SA (enO o),SA (y5 ⟨some l,cp,off⟩),SA (zZ c)] =
   some (.tup (if ((ctls o ⟨some l,cp,off⟩).any fun x=>decide (c=x))=true then[.agg (y5 (ke l cp off c)),.one (I6 0)] else[.agg (y5 zl9),.one (I6 11)])):=by
 have e:=t29 k o ho (some [⟨some l,cp,off⟩]) (by simp)
 have cc:=t30 (k+10) o ⟨some l,cp,off⟩ (by omega) hs (by omega) hl
 have hb:(ctls o ⟨some l,cp,off⟩).length≤100000:=by
  have a1:∀(ds:List Divn) (ss:List Int) (i:Nat),(∀d∈ds,d.stops.els.length≤60)→(wa ds ss i).length≤60*ds.length:=by
   intro ds
   induction ds with
   |nil=>intro ss i _;cases ss<;>simp[wa]
   |cons d ds ih=>
    intro ss i h;cases ss with
    |nil=>simp[wa]
    |cons s ss=>
     have q1:=ih ss (i+1) fun x hx=>h x (List.mem_cons_of_mem _ hx)
     have q2:=xt s 1 (i:Int) d.stops.els.length 0;have q3:=h d (List.mem_cons_self ..);rw[wa,List.length_append,List.length_cons];omega
  have q1:=a1 o.divs.els l 0 hs;have q2:=xt cp 2 0 o.cpls.els.length 0;have q3:=xt off 3 0 o.divs.els.length 0;unfold ctls;rw[List.length_append,List.length_append];simp only[yD];omega
 have ct:=t14 (k+9) c (grow (ctls o ⟨some l,cp,off⟩)) (by rw[zK];omega)
 rw[zK]at ct;rw[yD,he,xZ]at e;simp only[List.map_cons,List.map_nil]at e;have cw:((ctls o ⟨some l,cp,off⟩).any fun x=>decide (c=x))=true→D (k+11) 31 [SA (y5 ⟨some l,cp,off⟩),SA (zZ c)]=some (SA (y5 (ke l cp off c))):=fun h=>by
  rw[List.any_eq_true]at h;obtain⟨x,hx,hcx⟩:=h;have hcx:=of_decide_eq_true hcx;subst hcx;exact t31 (k+10) l cp off (by omega) c (zlq (r:=⟨some l,cp,off⟩) hd hs hc c hx)
 unfold enO y5 at e cc;have hx:zZ c=[I6 c.kind,I6 c.div,I6 c.idx]:=rfl;rw[hx]at ct cw;rw[show y5 ⟨some l,cp,off⟩=[enL 1 enU (some l),U64 cp,U64 off] from rfl]at cw ⊢
 rw[hx];unfold enO;rw[D10];unfold P10;simp only[e,zqh,yf,zb,zq,beq_self_eq_true,Bool.not_true,Bool.false_eq_true,if_false,cc,yc,ct,xa];cases hq:(ctls o ⟨some l,cp,off⟩).any fun x=>decide (c=x) with
 |false=>
  simp only[Bool.not_false,if_true,Bool.false_eq_true,if_false];rfl
 |true=>
  have cw:=cw hq;simp only[Bool.not_true,Bool.false_eq_true,if_false,if_true,cw,zgy,zhY]
theorem t3(k:Nat)(p:Pln)(hp:p.ok)(b:Nat→Nat)(hb:∀i,b i<256)(c:Ctl):D (k+14) 3 [SA (zdN p),SA (enB b),SA (zZ c)]=some (S1 (Bo true)):=by
 have kn:=D5 (k+13);have cf:=t6 (k+12) p hp;unfold zdN at cf ⊢;unfold enB zZ;rw[D3];unfold P3;simp only[kn,yc,xa,zb,zq,Bool.not_true,Bool.false_eq_true,if_false,cf];cases hf:zdC p with
 |false=>rfl
 |true=>
  have cm:=t7 (k+6) p hp hf;have ho:=zpf p hf;have h0:=ziH p hp hf;obtain⟨s1,s2,s3⟩:=ziG p hf;generalize mk18 p=o at cm ho h0 s1 s2 s3;have s2':∀d∈o.divs.els,d.stops.els.length≤60:=fun d hd=>by have:=s2 d hd;omega
  obtain⟨_,hd0⟩:=zfI h0;unfold zdN at cm;have cd:=t8 (k+12) o b hb (by omega) s2' (by omega)
  have hre:=zel h0 b hb s1 s2 s3;have hlen:(wz b 0 o.divs.els).length=o.divs.els.length:=j5 ..;have hr:wM o b=⟨some (wz b 0 o.divs.els),(wM o b).cpls,(wM o b).off⟩:=by
   unfold wM;rw[zf4 (by omega)]
  generalize wz b 0 o.divs.els=l at hlen hr;generalize (wM o b).cpls=cp at hr;generalize (wM o b).off=off at hr;rw[hr]at cd hre;unfold enB at cd;have hck:zcI o [⟨some l,cp,off⟩]=0:=by
   unfold zcI;rw[if_neg (by rw[h0];simp),qn,if_neg (by rw[hre];simp)];rfl
  have c9:=t9 (k+1) o ho ⟨some l,cp,off⟩ (by omega) s2' (by omega) hlen hck
  have c10:=t10 (k+1) o ho l cp off c (by omega) s2' (by omega) hlen hck
  have c11:=t11 (k+12) o ⟨some l,cp,off⟩ (by omega) s2' (by omega) hlen
  have hcl:(ctls o ⟨some l,cp,off⟩).length≤1000000:=by
   have a1:∀(ds:List Divn) (ss:List Int) (i:Nat),(∀d∈ds,d.stops.els.length≤60)→(wa ds ss i).length≤60*ds.length:=by
    intro ds
    induction ds with
    |nil=>intro ss i _;cases ss<;>simp[wa]
    |cons d ds ih=>
     intro ss i h;cases ss with
     |nil=>simp[wa]
     |cons s ss=>
      have q1:=ih ss (i+1) fun x hx=>h x (List.mem_cons_of_mem _ hx)
      have q2:=xt s 1 (i:Int) d.stops.els.length 0;have q3:=h d (List.mem_cons_self ..);rw[wa,List.length_append,List.length_cons];omega
   have q1:=a1 o.divs.els l 0 s2';have q2:=xt cp 2 0 o.cpls.els.length 0;have q3:=xt off 3 0 o.divs.els.length 0;unfold ctls;rw[List.length_append,List.length_append];simp only[yD];omega
  have c12:=t12 (k+12) (grow (ctls o ⟨some l,cp,off⟩)) (by rw[zK];exact hcl)
  have c13:=fun r hr=>t13 (k+11) r hr
  have c14:=t14 (k+11) c (grow (ctls o ⟨some l,cp,off⟩)) (by rw[zK];omega)
  rw[zK]at c14;have cw:((ctls o ⟨some l,cp,off⟩).any fun x=>decide (c=x))=true→D (k+13) 15 [SA (y5 ⟨some l,cp,off⟩),SA (zZ c)]=some (SA (y5 (ke l cp off c))):=fun h=>by
   rw[List.any_eq_true]at h;obtain⟨x,hx,hcx⟩:=h;have hcx:=of_decide_eq_true hcx;subst hcx;exact t15 (k+12) l cp off (by omega) c (zlq (r:=⟨some l,cp,off⟩) (by omega) s2' (by omega) c hx)
  have hw:(ke l cp off c).stops.els.length≤1000000:=by
   unfold ke;split
   ·simp only[yD,List.length_set];omega
   ·split<;>simp only[yD]<;>omega
  have hx:zZ c=[I6 c.kind,I6 c.div,I6 c.idx]:=rfl;rw[hx]at c10 c14;rw[hx]at cw;simp only[Bool.not_true,Bool.false_eq_true,if_false,cm,zqf,zr9,cd,zgy,zhY,c9,zqd,c10];cases hq:(ctls o ⟨some l,cp,off⟩).any fun x=>decide (c=x) with
  |false=>
   rw[hq]at c14;have z:=c13 zl9 (by simp[zl9])
   have z':[DV.nils,U64 0,U64 0]=y5 zl9:=rfl;simp only[zq,Bool.false_eq_true,if_false,zol,c11,yc,zcH,zoh,qD,zln,yf,beq_self_eq_true,Bool.not_true,zb,c12,xa,c13 ⟨some l,cp,off⟩ (by simp only[yD];omega),c14,Bool.not_false,if_true,xx,zhY,z',z]
  |true=>
   rw[hq]at c14;have cw:=cw hq;have q:((0:Int)==11)=false:=rfl;simp only[zq,if_true,zol,c11,yc,zcH,zoh,qD,zln,yf,beq_self_eq_true,Bool.not_true,Bool.false_eq_true,if_false,zb,c12,xa,c13 ⟨some l,cp,off⟩ (by simp only[yD];omega),c14,xx,zhY,q,cw,zgy,c13 (ke l cp off c) hw]
end Go.Proofs.Tryz.Kn
end
