/-
  Lemmas. No condition.
-/
import Derived.Test.YtajlcdcddofboaaGreatDoorVe
import Derived.Test.YtajlcdcddofboaaGreatDoorProg
noncomputable section
namespace Go.Proofs.Tryz.Kn
open Go Go.CE Go.PE
abbrev prog:Program:=Tryz.prog
def zw5:Nat→Bool:=fun g=>match g with|40=>true|61=>true|73=>true|75=>true|96=>true|97=>true|_=>false
abbrev redI:Red:=⟨fun _ _=>none,fun g=>match g with|73=>some ⟨[74,120],2⟩|_=>none⟩
def an0:Nat→Option LA:=fun _=>none
def zzd:Nat→List PA→Nat→Nat→Option LA:=fun _ _ _ _=>none
abbrev pF(O:Orc)(an:Nat→Option LA)(g:Nat)(args:List DA):Option DA:=zyb prog O zw5 (inl prog O zw5 zzd redI 4) an g args
def zA3:Nat→Option LA:=fun i=>match i with|0=>some ⟨[.slot 3],[],[],[],[],[],[.slot 2],[],[]⟩|_=>none
def zgW(a:DV)(L12:List DV)(_:List OC):Option PX:=za (zwO a) fun v14=>za (zwJ .lss (zwK L12 0) v14) fun v15=>ifB v15 (za (zwP 4 a (zwK L12 0)) fun x16=>za (zwO (atD x16 3)) fun v17=>za (zwJ .gtr v17 (I6 3)) fun v18=>ifB v18 (some (.ret,[.bool false],[])) (za (zwJ .add (zwK L12 0) (I6 1)) fun v19=>some (.normal,[v19],[]))) (some (.exit 0,[],[]))
def P10(_O:Orc)(a b c:DV):Option DA:=za (zwO a) fun v0=>za (zwJ .lss v0 (I6 1)) fun v1=>ifB v1 (some (S1 (.bool false))) (za (zwO a) fun v2=>za (zwJ .gtr v2 (I6 3)) fun v3=>ifB v3 (some (S1 (.bool false))) (za (zwO b) fun v4=>za (zwJ .lss v4 (I6 1)) fun v5=>ifB v5 (some (S1 (.bool false))) (za (zwO b) fun v6=>za (zwJ .gtr v6 (I6 3)) fun v7=>ifB v7 (some (S1 (.bool false))) (za (zwO c) fun v8=>za (zwJ .gtr v8 (I6 3)) fun v9=>ifB v9 (some (S1 (.bool false))) (yL (zL (zgW b) [I6 0] []) (fun i20 _ _=>bif Nat.beq i20 0 then (some (S1 (.bool true))) else(none)) (fun L10 _=>some (S1 (zwK L10 0))))))))
theorem p10(O:Orc)(a b c:DV):pF O zA3 10 [SA [a,b,c]]=P10 O a b c:=by kernel_rfl
def zA2:Nat→Option LA:=fun i=>match i with|0=>some ⟨[.slot 4,.cell 2 0],[(.cell 2 1,6),(.cell 2 2,5),(.cell 2 3,5)],[(2,4)],[],[.cell 2 0],[(.cell 2 1,6),(.cell 2 2,5),(.cell 2 3,5)],[.cell 2 0,.cell 2 1,.cell 2 2,.cell 2 3],[],[]⟩|1=>some ⟨[.slot 5,.cell 2 0,.cell 2 1],[(.cell 2 2,5),(.cell 2 3,5)],[(2,4)],[],[.cell 2 0,.cell 2 1],[(.cell 2 2,5),(.cell 2 3,5)],[.cell 2 0,.cell 2 1,.cell 2 2,.cell 2 3],[],[3]⟩|2=>some ⟨[.slot 9,.cell 10 0,.cell 10 1,.cell 10 2,.cell 10 3],[(.cell 10 4,4)],[(10,5)],[],[.cell 10 0,.cell 10 1,.cell 10 2,.cell 10 3],[(.cell 10 4,4)],[.cell 10 0,.cell 10 1,.cell 10 2,.cell 10 3,.cell 10 4],[],[]⟩|3=>some ⟨[.slot 11,.cell 2 0,.cell 2 1],[(.cell 2 2,5),(.cell 2 3,5)],[(2,4)],[],[.cell 2 0,.cell 2 1],[(.cell 2 2,5),(.cell 2 3,5)],[.cell 2 0,.cell 2 1,.cell 2 2,.cell 2 3],[],[]⟩|_=>none
def zgP(a v40:DV)(L43:List DV)(M44:List OC):Option PX:=za (zwO a) fun v45=>za (zwJ .lss (zwK L43 0) v45) fun v46=>ifB v46 (za (zwP 4 a (zwK L43 0)) fun x47=>za (zwJ .add (I6 48) (zwK L43 0)) fun v48=>za (yQ .u8 v48) fun v49=>za (zx3 (.lst 1 [[v49]])) fun v50=>za (zx2 .add (.str ⟨#[67]⟩) v50) fun v51=>za (yQ .i64 (atD x47 0)) fun v52=>za (zwJ .rem v52 v40) fun v53=>za (yQ .i64 (atD x47 1)) fun v54=>za (zwJ .rem v54 v40) fun v55=>za (yQ .i64 (atD x47 2)) fun v56=>za (zwJ .rem v56 (I6 25)) fun v57=>za (zwJ .eql v53 v55) fun v58=>ifB v58 (za (zwJ .eql v57 (I6 0)) fun v59=>ifB v59 (gd (fits 48 (zwW (zwL M44 1)+1)) (za (zwJ .add (zwK L43 0) (I6 1)) fun v60=>some (.normal,[v60,zwK L43 1,zwK L43 2],[zwL M44 0,some (zQ (zwL M44 1)++[[v51,v53,v55,I6 12,atD x47 3]])]))) (gd (fits 48 (zwW (zwL M44 1)+1)) (za (zwJ .add (zwK L43 0) (I6 1)) fun v61=>some (.normal,[v61,zwK L43 1,zwK L43 2],[zwL M44 0,some (zQ (zwL M44 1)++[[v51,v53,v55,v57,atD x47 3]])])))) (gd (fits 48 (zwW (zwL M44 1)+1)) (za (zwJ .add (zwK L43 0) (I6 1)) fun v62=>some (.normal,[v62,zwK L43 1,zwK L43 2],[zwL M44 0,some (zQ (zwL M44 1)++[[v51,v53,v55,v57,atD x47 3]])])))) (some (.exit 6,[zwK L43 1,zwK L43 2],[zwL M44 0,zwL M44 1]))
def zgQ(O:Orc)(x16 L12:List DV)(L29:List DV)(M30:List OC):Option PX:=za (zwO (atD x16 3)) fun v31=>za (zwJ .lss (zwK L29 0) v31) fun v32=>ifB v32 (za (zwP 4 (atD x16 3) (zwK L29 0)) fun x33=>bA 4 (O 37 [S1 (zwK L12 2),SA [zwK L29 3,zwK L29 4],SA [atD x33 0,atD x33 1,atD x33 2,atD x33 3],S1 (zwK L29 0)]) fun g34=>gd (fits 56 (zwW (zwL M30 0)+1)) (za (zwJ .add (zwK L29 0) (I6 1)) fun v35=>some (.normal,[v35,zwK L29 1,zwK L29 2,zwK L29 3,zwK L29 4],[some (zQ (zwL M30 0)++[[atD g34 0,atD g34 1,atD g34 2,atD g34 3]])]))) (some (.exit 4,[zwK L29 1,zwK L29 2,zwK L29 3,zwK L29 4],[zwL M30 0]))
def zgR(O:Orc)(a:DV)(L12:List DV)(M13:List OC):Option PX:=za (zwO a) fun v14=>za (zwJ .lss (zwK L12 0) v14) fun v15=>ifB v15 (za (zwP 4 a (zwK L12 0)) fun x16=>za (zwJ .rem (atD x16 0) (U8 12)) fun v17=>za (yQ .i64 v17) fun v18=>za (zwJ .add (I6 36) v18) fun v19=>za (zwJ .add (I6 48) (zwK L12 0)) fun v20=>za (yQ .u8 v20) fun v21=>za (zx3 (.lst 1 [[v21]])) fun v22=>za (zx2 .add (.str ⟨#[68]⟩) v22) fun v23=>za (zwJ .rem (atD x16 1) (U8 9)) fun v24=>za (yQ .i64 v24) fun v25=>za (zwJ .add v19 v25) fun v26=>yL (zL (zgQ O x16 L12) [I6 0,v23,atD x16 2,v19,v26] [none]) (fun i36 L27 M28=>bif Nat.beq i36 4 then (gd (fits 64 (zwW (zwL M13 0)+1)) (za (zwJ .add (zwK L12 0) (I6 1)) fun v37=>some (.normal,[v37,zwK L12 1,zwK L12 2],[some (zQ (zwL M13 0)++[[zwK L27 0,zwK L27 1,zwK L27 2,zwK L27 3,mkL 4 (zwL M28 0)]]),zwL M13 1]))) else(bif Nat.beq i36 3 then (za (zwJ .add (zwK L12 0) (I6 1)) fun v38=>some (.normal,[v38,zwK L12 1,zwK L12 2],[zwL M13 0,zwL M13 1])) else(some (.exit i36,[zwK L12 1,zwK L12 2],[zwL M13 0,zwL M13 1])))) (fun _ _=>none)) (some (.exit 2,[zwK L12 1,zwK L12 2],[zwL M13 0,zwL M13 1]))
def zol(O:Orc)(a:DV)(L2:List DV)(M3:List OC):Option PX:=za (zwO a) fun v4=>za (zwJ .lss (zwK L2 0) v4) fun v5=>ifB v5 (za (zwP 9 a (zwK L2 0)) fun x6=>bA 6 (O 36 [SA [atD x6 0,atD x6 1,atD x6 2,atD x6 3,atD x6 4,atD x6 5,atD x6 6,atD x6 7,atD x6 8],S1 (zwK L2 0)]) fun g7=>gd (fits 80 (zwW (zwL M3 0)+1)) (za (zwJ .add (zwK L2 0) (I6 1)) fun v8=>some (.normal,[v8,zwK L2 1],[some (zQ (zwL M3 0)++[[atD g7 0,atD g7 1,atD g7 2,atD g7 3,atD g7 4,atD g7 5]]),zwL M3 1,zwL M3 2]))) (some (.exit 0,[zwK L2 1],[zwL M3 0,zwL M3 1,zwL M3 2]))
def P11(O:Orc)(a b c:DV):Option DA:=yL (zL (zol O a) [I6 0,.str ⟨#[79,114,103,97,110]⟩] [none,none,none]) (fun i9 L0 M1=>bif Nat.beq i9 0 then (yL (zL (zgR O b) [I6 0,zwK L0 0,mkL 6 (zwL M1 0)] [zwL M1 1,zwL M1 2]) (fun i39 L10 M11=>bif Nat.beq i39 2 then (za (zwO b) fun v40=>yL (zL (zgP c v40) [I6 0,zwK L10 0,zwK L10 1] [zwL M11 0,zwL M11 1]) (fun i63 L41 M42=>bif Nat.beq i63 6 then (some (SA [zwK L41 0,zwK L41 1,mkL 5 (zwL M42 0),mkL 5 (zwL M42 1)])) else(none)) (fun _ _=>none)) else(none)) (fun _ _=>none)) else(none)) (fun _ _=>none)
theorem p11(O:Orc)(a b c:DV):pF O zA2 11 [SA [a,b,c]]=P11 O a b c:=by kernel_rfl
def zA1:Nat→Option LA:=fun i=>match i with|0=>some ⟨[.slot 6,.cell 3 1,.cell 3 2],[(.cell 3 0,1)],[(3,3)],[],[.cell 3 1,.cell 3 2],[(.cell 3 0,1)],[.cell 3 0,.cell 3 1,.cell 3 2],[],[]⟩|_=>none
def zgO(a b c d f h:DV)(L14:List DV)(M15:List OC):Option PX:=za (zwO a) fun v16=>za (zwJ .lss (zwK L14 0) v16) fun v17=>ifB v17 (za (zwJ .rem (zwK L14 0) (I6 3)) fun v18=>za (ul 5 v18) fun n19=>za (yQ .u64 (atD [b,c,d,f,h] n19)) fun v20=>za (zwP 5 a (zwK L14 0)) fun x21=>za (zwO (atD x21 4)) fun v22=>za (yQ .u64 v22) fun v23=>za (wy true (U64 1) v23) fun v24=>za (zwJ .sub v24 (U64 1)) fun v25=>za (zwJ .and v20 v25) fun v26=>gd (fits 8 (zwW (zwL M15 0)+1)) (za (zwJ .add (zwK L14 0) (I6 1)) fun v27=>some (.normal,[v27,zwK L14 1,zwK L14 2],[some (zQ (zwL M15 0)++[[v26]])]))) (some (.exit 0,[zwK L14 1,zwK L14 2],[zwL M15 0]))
def P12(_O:Orc)(_a _b c d f h j m r:DV):Option DA:=za (yQ .u64 (atD [f,h,j,m,r] 3)) fun v0=>za (zwO d) fun v1=>za (yQ .u64 v1) fun v2=>za (wy true (U64 1) v2) fun v3=>za (zwJ .sub v3 (U64 1)) fun v4=>za (zwJ .and v0 v4) fun v5=>za (yQ .u64 (atD [f,h,j,m,r] 4)) fun v6=>za (zwO c) fun v7=>za (yQ .u64 v7) fun v8=>za (wy true (U64 1) v8) fun v9=>za (zwJ .sub v9 (U64 1)) fun v10=>za (zwJ .and v6 v10) fun v11=>yL (zL (zgO c f h j m r) [I6 0,v5,v11] [none]) (fun i28 L12 M13=>bif Nat.beq i28 0 then (some (SA [mkL 1 (zwL M13 0),zwK L12 0,zwK L12 1])) else(none)) (fun _ _=>none)
theorem p12(O:Orc)(a b c d f h j m r:DV):pF O zA1 12 [SA [a,b,c,d],SA [f,h,j,m,r]]=P12 O a b c d f h j m r:=by kernel_rfl
def zAY:Nat→Option LA:=fun i=>match i with|0=>some ⟨[.slot 27],[],[],[(1,1048576)],[],[],[.slot 2],[],[]⟩|1=>some ⟨[.slot 58],[(.slot 8,2)],[],[(2,1048576)],[],[(.slot 8,2)],[.slot 2],[],[]⟩|_=>none
def zgL(O:Orc)(v26 a b c d:DV)(L29:List DV)(M30:List OC):Option PX:=za (zwJ .lss (zwK L29 0) v26) fun v31=>ifB v31 (za (zwP 5 a (zwK L29 0)) fun x32=>b1 (O 59 [S1 (atD x32 0)]) fun v33=>za (zxd v33) fun v34=>ifB v34 (some (.ret,[I6 8],[some (zQ (zwL M30 1))])) (za (zxD (.inl 2) (.one (atD x32 0)) (.one (atD x32 0))) fun _q35=>za (zeR (.inl 2) 1048576 (.one (atD x32 0)) (zQ (zwL M30 1))) fun r36=>ifB (dsO (lkD (.one (.bool false)) r36)) (za (zwJ .neq (I6 9) (I6 0)) fun v37=>ifB v37 (some (.ret,[I6 9],[some (zQ (zwL M30 1))])) (b1 (O 62 [SA [b,c,a,d],SA [atD x32 0,atD x32 1,atD x32 2,atD x32 3,atD x32 4]]) fun v38=>za (zwJ .neq v38 (I6 0)) fun v39=>ifB v39 (some (.ret,[v38],[some (zQ (zwL M30 1))])) (gd (fits 16 (zwW (zwL M30 0)+1)) (za (zwJ .add (zwK L29 0) (I6 1)) fun v40=>some (.normal,[v40],[some (zQ (zwL M30 0)++[[atD x32 2,atD x32 3]]),some (zQ (zwL M30 1))]))))) (za (zxD (.inl 2) (.one (atD x32 0)) (.one (atD x32 0))) fun _q41=>za (zya (.inl 2) 1048576 (.one (atD x32 0)) [atD x32 0,.bool true] (zQ (zwL M30 1))) fun e42=>za (zwJ .neq (I6 0) (I6 0)) fun v43=>ifB v43 (some (.ret,[I6 0],[some e42])) (b1 (O 62 [SA [b,c,a,d],SA [atD x32 0,atD x32 1,atD x32 2,atD x32 3,atD x32 4]]) fun v44=>za (zwJ .neq v44 (I6 0)) fun v45=>ifB v45 (some (.ret,[v44],[some e42])) (gd (fits 16 (zwW (zwL M30 0)+1)) (za (zwJ .add (zwK L29 0) (I6 1)) fun v46=>some (.normal,[v46],[some (zQ (zwL M30 0)++[[atD x32 2,atD x32 3]]),some e42]))))))) (some (.exit 4,[],[zwL M30 0,some (zQ (zwL M30 1))]))
def zoi(O:Orc)(v4 a:DV)(L7:List DV)(M8:List OC):Option PX:=za (zwJ .lss (zwK L7 0) v4) fun v9=>ifB v9 (za (zwP 6 a (zwK L7 0)) fun x10=>b1 (O 60 [SA [atD x10 0,atD x10 1,atD x10 2,atD x10 3,atD x10 4,atD x10 5]]) fun v11=>za (zwJ .neq v11 (I6 0)) fun v12=>ifB v12 (some (.ret,[v11],[some (zQ (zwL M8 0))])) (za (zxD (.inl 2) (.one (atD x10 0)) (.one (atD x10 0))) fun _q13=>za (zeR (.inl 2) 1048576 (.one (atD x10 0)) (zQ (zwL M8 0))) fun r14=>ifB (dsO (lkD (.one (.bool false)) r14)) (za (zwJ .neq (I6 9) (I6 0)) fun v15=>ifB v15 (some (.ret,[I6 9],[some (zQ (zwL M8 0))])) (za (zwJ .add (zwK L7 0) (I6 1)) fun v16=>some (.normal,[v16],[some (zQ (zwL M8 0))]))) (za (zxD (.inl 2) (.one (atD x10 0)) (.one (atD x10 0))) fun _q17=>za (zya (.inl 2) 1048576 (.one (atD x10 0)) [atD x10 0,.bool true] (zQ (zwL M8 0))) fun e18=>za (zwJ .neq (I6 0) (I6 0)) fun v19=>ifB v19 (some (.ret,[I6 0],[some e18])) (za (zwJ .add (zwK L7 0) (I6 1)) fun v20=>some (.normal,[v20],[some e18]))))) (some (.exit 1,[],[some (zQ (zwL M8 0))]))
def P30(O:Orc)(a b c d:DV):Option DA:=b1 (O 59 [S1 a]) fun v0=>za (zxd v0) fun v1=>ifB v1 (some (S1 (I6 8))) (za (zwO b) fun v2=>za (zwJ .gtr v2 (I6 60)) fun v3=>ifB v3 (some (S1 (I6 4))) (za (zwO b) fun v4=>yL (zL (zoi O v4 b) [I6 0] [some []]) (fun i21 _ _=>bif Nat.beq i21 1 then (za (zwO c) fun v22=>za (zwJ .eql v22 (I6 0)) fun v23=>ifB v23 (some (S1 (I6 13))) (za (zwO c) fun v24=>za (zwJ .gtr v24 (I6 8)) fun v25=>ifB v25 (some (S1 (I6 4))) (za (zwO c) fun v26=>yL (zL (zgL O v26 c a b d) [I6 0] [none,some []]) (fun i47 _ M28=>bif Nat.beq i47 4 then (b1s (O 63 [S1 (mkL 2 (zwL M28 0)),S1 d]) fun v48=>some (S1 v48)) else(none)) (fun L27 _=>some (S1 (zwK L27 0)))))) else(none)) (fun L5 _=>some (S1 (zwK L5 0)))))
theorem p30(O:Orc)(a b c d:DV):pF O zAY 30 [SA [a,b,c,d]]=P30 O a b c d:=by kernel_rfl
def zAX:Nat→Option LA:=fun i=>match i with|0=>some ⟨[.slot 23],[],[],[],[],[],[.slot 4],[],[]⟩|_=>none
def zoh(v5 a b:DV)(L8:List DV)(_:List OC):Option PX:=za (zwJ .lss (zwK L8 0) v5) fun v10=>ifB v10 (za (zwP 5 a (zwK L8 0)) fun x11=>za (zwP 1 b (zwK L8 0)) fun x12=>za (zwO (atD x11 4)) fun v13=>za (wy false (atD x12 0) v13) fun v14=>za (zwJ .neq v14 (U64 0)) fun v15=>ifB v15 (some (.ret,[I6 3],[])) (za (zwJ .add (zwK L8 0) (I6 1)) fun v16=>some (.normal,[v16],[]))) (some (.exit 0,[],[]))
def P31(O:Orc)(a b c d f h j:DV):Option DA:=b1 (O 30 [SA [a,b,c,d]]) fun v0=>za (zwJ .neq v0 (I6 0)) fun v1=>ifB v1 (some (S1 v0)) (za (zwO f) fun v2=>za (zwO c) fun v3=>za (zwJ .neq v2 v3) fun v4=>ifB v4 (some (S1 (I6 5))) (za (zwO c) fun v5=>yL (zL (zoh v5 c f) [I6 0] []) (fun i17 _ _=>bif Nat.beq i17 0 then (za (zwO d) fun v18=>za (wy false h v18) fun v19=>za (zwJ .neq v19 (U64 0)) fun v20=>ifB v20 (some (S1 (I6 3))) (za (zwO c) fun v21=>za (wy false j v21) fun v22=>za (zwJ .neq v22 (U64 0)) fun v23=>ifB v23 (some (S1 (I6 3))) (some (S1 (I6 0))))) else(none)) (fun L6 _=>some (S1 (zwK L6 0)))))
theorem p31(O:Orc)(a b c d f h j:DV):pF O zAX 31 [SA [a,b,c,d],SA [f,h,j]]=P31 O a b c d f h j:=by kernel_rfl
def zAW:Nat→Option LA:=fun i=>match i with|0=>some ⟨[.slot 6,.cell 4 0,.cell 4 1,.cell 4 2,.cell 4 3,.cell 4 4],[(.cell 4 5,1)],[(4,6)],[],[.cell 4 0,.cell 4 1,.cell 4 2,.cell 4 3,.cell 4 4],[(.cell 4 5,1)],[.cell 4 0,.cell 4 1,.cell 4 2,.cell 4 3,.cell 4 4,.cell 4 5],[],[]⟩|_=>none
def zgK(a b c d f h:DV)(L12:List DV)(M13:List OC):Option PX:=za (zwJ .rem a (U8 25)) fun v14=>za (yQ .i64 v14) fun v15=>za (zwJ .add (I6 1) v15) fun v16=>za (zwJ .lss (zwK L12 0) v16) fun v17=>ifB v17 (za (zwJ .rem (zwK L12 0) (I6 5)) fun v18=>za (ul 5 v18) fun n19=>za (yQ .i64 (atD [b,c,d,f,h] n19)) fun v20=>gd (fits 8 (zwW (zwL M13 0)+1)) (za (zwJ .add (zwK L12 0) (I6 1)) fun v21=>some (.normal,[v21,zwK L12 1,zwK L12 2,zwK L12 3,zwK L12 4,zwK L12 5],[some (zQ (zwL M13 0)++[[v20]])]))) (some (.exit 0,[zwK L12 1,zwK L12 2,zwK L12 3,zwK L12 4,zwK L12 5],[zwL M13 0]))
def P36(O:Orc)(a b c d f h j m r a1:DV):Option DA:=za (zwJ .rem a1 (I6 10)) fun v0=>za (zwJ .add (I6 48) v0) fun v1=>za (yQ .u8 v1) fun v2=>za (zx3 (.lst 1 [[v2]])) fun v3=>za (zx2 .add (.str ⟨#[82]⟩) v3) fun v4=>za (zwJ .rem a (U8 3)) fun v5=>za (xA (some [[.str ⟨#[79,112,101,110]⟩],[.str ⟨#[70,108,117,116,101]⟩],[.str ⟨#[82,101,101,100]⟩]]) v5) fun n6=>za (zw7 (some [[.str ⟨#[79,112,101,110]⟩],[.str ⟨#[70,108,117,116,101]⟩],[.str ⟨#[82,101,101,100]⟩]]) n6) fun x7=>bA 2 (O 68 [S1 b]) fun g8=>za (yQ .i64 c) fun v9=>yL (zL (zgK d f h j m r) [I6 0,v4,atD x7 0,atD g8 0,atD g8 1,v9] [none]) (fun i22 L10 M11=>bif Nat.beq i22 0 then (some (SA [zwK L10 0,zwK L10 1,zwK L10 2,zwK L10 3,zwK L10 4,mkL 1 (zwL M11 0)])) else(none)) (fun _ _=>none)
theorem p36(O:Orc)(a b c d f h j m r a1:DV):pF O zAW 36 [SA [a,b,c,d,f,h,j,m,r],S1 a1]=P36 O a b c d f h j m r a1:=by kernel_rfl
def P37(O:Orc)(a0 a b c d f h a3:DV):Option DA:=za (yQ .i64 c) fun v0=>za (zwO a0) fun v1=>za (zwJ .rem v0 v1) fun v2=>za (zwJ .add (I6 48) a3) fun v3=>za (yQ .u8 v3) fun v4=>za (zx3 (.lst 1 [[v4]])) fun v5=>za (zx2 .add (.str ⟨#[83]⟩) v5) fun v6=>bA 2 (O 69 [S1 d]) fun g7=>za (zwP 6 a0 v2) fun x8=>bT [none,none] (O 70 [SA [atD g7 0,atD g7 1],SA [atD x8 2,atD x8 3]]) fun t9=>za (yQ .i64 h) fun v10=>za (zwJ .sub b a) fun v11=>za (zwJ .add v11 (I6 1)) fun v12=>za (zwJ .rem v10 v12) fun v13=>za (zwJ .add a v13) fun v14=>za (zwJ .rem f (U8 6)) fun v15=>za (zwJ .eql v15 (U8 2)) fun v16=>ifB v16 (za (zwJ .add (dsO (zwV t9 0)) (I6 7)) fun v17=>some (SA [v6,atD g7 0,atD g7 1,.lst 3 [[a,b,.lst 2 [[v2,dsO (zwV t9 0)],[v2,v17]]]]])) (za (zwJ .eql v15 (U8 3)) fun v18=>ifB v18 (za (zwJ .sub (dsO (zwV t9 0)) (I6 12)) fun v19=>za (zwJ .rem f (U8 6)) fun v20=>za (zwJ .eql v20 (U8 3)) fun v21=>ifB v21 (za (zwJ .add v2 (I6 1)) fun v22=>za (zwO a0) fun v23=>za (zwJ .rem v22 v23) fun v24=>za (zwP 6 a0 v24) fun x25=>bT [none,none] (O 70 [SA [atD g7 0,atD g7 1],SA [atD x25 2,atD x25 3]]) fun t26=>za (zwJ .gtr v14 a) fun v27=>ifB v27 (za (zwJ .sub v14 (I6 1)) fun v28=>gd (fits 40 1) (gd (fits 40 (zwW (some (zQ none++[[a,v28,.lst 2 [[v2,dsO (zwV t9 0)]]]]))+1)) (some (SA [v6,atD g7 0,atD g7 1,.lst 3 (zQ (some (zQ none++[[a,v28,.lst 2 [[v2,dsO (zwV t9 0)]]]]))++[[v14,b,.lst 2 [[v24,dsO (zwV t26 0)]]]])])))) (gd (fits 40 1) (some (SA [v6,atD g7 0,atD g7 1,.lst 3 (zQ none++[[v14,b,.lst 2 [[v24,dsO (zwV t26 0)]]]])])))) (za (zwJ .gtr v14 a) fun v29=>ifB v29 (za (zwJ .sub v14 (I6 1)) fun v30=>gd (fits 40 1) (gd (fits 40 (zwW (some (zQ none++[[a,v30,.lst 2 [[v2,dsO (zwV t9 0)]]]]))+1)) (some (SA [v6,atD g7 0,atD g7 1,.lst 3 (zQ (some (zQ none++[[a,v30,.lst 2 [[v2,dsO (zwV t9 0)]]]]))++[[v14,b,.lst 2 [[v2,v19]]]])])))) (gd (fits 40 1) (some (SA [v6,atD g7 0,atD g7 1,.lst 3 (zQ none++[[v14,b,.lst 2 [[v2,v19]]]])]))))) (za (zwJ .eql v15 (U8 4)) fun v31=>ifB v31 (za (zwJ .sub (dsO (zwV t9 0)) (I6 12)) fun v32=>za (zwJ .rem f (U8 6)) fun v33=>za (zwJ .eql v33 (U8 3)) fun v34=>ifB v34 (za (zwJ .add v2 (I6 1)) fun v35=>za (zwO a0) fun v36=>za (zwJ .rem v35 v36) fun v37=>za (zwP 6 a0 v37) fun x38=>bT [none,none] (O 70 [SA [atD g7 0,atD g7 1],SA [atD x38 2,atD x38 3]]) fun t39=>za (zwJ .gtr v14 a) fun v40=>ifB v40 (za (zwJ .sub v14 (I6 1)) fun v41=>gd (fits 40 1) (gd (fits 40 (zwW (some (zQ none++[[a,v41,.lst 2 [[v2,dsO (zwV t9 0)]]]]))+1)) (some (SA [v6,atD g7 0,atD g7 1,.lst 3 (zQ (some (zQ none++[[a,v41,.lst 2 [[v2,dsO (zwV t9 0)]]]]))++[[v14,b,.lst 2 [[v37,dsO (zwV t39 0)]]]])])))) (gd (fits 40 1) (some (SA [v6,atD g7 0,atD g7 1,.lst 3 (zQ none++[[v14,b,.lst 2 [[v37,dsO (zwV t39 0)]]]])])))) (za (zwJ .gtr v14 a) fun v42=>ifB v42 (za (zwJ .sub v14 (I6 1)) fun v43=>gd (fits 40 1) (gd (fits 40 (zwW (some (zQ none++[[a,v43,.lst 2 [[v2,dsO (zwV t9 0)]]]]))+1)) (some (SA [v6,atD g7 0,atD g7 1,.lst 3 (zQ (some (zQ none++[[a,v43,.lst 2 [[v2,dsO (zwV t9 0)]]]]))++[[v14,b,.lst 2 [[v2,v32]]]])])))) (gd (fits 40 1) (some (SA [v6,atD g7 0,atD g7 1,.lst 3 (zQ none++[[v14,b,.lst 2 [[v2,v32]]]])]))))) (za (zwJ .eql v15 (U8 5)) fun v44=>ifB v44 (some (SA [v6,atD g7 0,atD g7 1,.lst 3 [[v14,b,.lst 2 [[v2,dsO (zwV t9 0)]]]]])) (some (SA [v6,atD g7 0,atD g7 1,.lst 3 [[a,b,.lst 2 [[v2,dsO (zwV t9 0)]]]]])))))
theorem p37(O:Orc)(a0 a b c d f h a3:DV):pF O an0 37 [S1 a0,SA [a,b],SA [c,d,f,h],S1 a3]=P37 O a0 a b c d f h a3:=by kernel_rfl
def zAR:Nat→Option LA:=fun i=>match i with|0=>some ⟨[.slot 3],[],[],[],[],[],[.slot 2],[],[]⟩|_=>none
def zod(O:Orc)(a0:DV)(L8:List DV)(_:List OC):Option PX:=za (zku a0) fun v10=>za (zwJ .lss (zwK L8 0) v10) fun v11=>ifB v11 (za (zaY a0 (zwK L8 0)) fun v12=>b1 (O 83 [S1 v12]) fun v13=>za (zxd v13) fun v14=>ifB v14 (za (zwJ .lss v12 (U8 48)) fun v15=>ifB v15 (za (zwJ .neq v12 (U8 95)) fun v16=>ifB v16 (some (.ret,[.bool false],[])) (za (zwJ .add (zwK L8 0) (I6 1)) fun v17=>some (.normal,[v17],[]))) (za (zwJ .gtr v12 (U8 57)) fun v18=>ifB v18 (za (zwJ .neq v12 (U8 95)) fun v19=>ifB v19 (some (.ret,[.bool false],[])) (za (zwJ .add (zwK L8 0) (I6 1)) fun v20=>some (.normal,[v20],[]))) (za (zwJ .add (zwK L8 0) (I6 1)) fun v21=>some (.normal,[v21],[])))) (za (zwJ .add (zwK L8 0) (I6 1)) fun v22=>some (.normal,[v22],[]))) (some (.exit 0,[],[]))
def P59(O:Orc)(a0:DV):Option DA:=za (zx2 .eql a0 (.str ⟨#[]⟩)) fun v0=>ifB v0 (some (S1 (.bool false))) (za (zku a0) fun v1=>za (zwJ .gtr v1 (I6 32)) fun v2=>ifB v2 (some (S1 (.bool false))) (za (zaY a0 (I6 0)) fun v3=>b1 (O 83 [S1 v3]) fun v4=>za (zxd v4) fun v5=>ifB v5 (some (S1 (.bool false))) (yL (zL (zod O a0) [I6 1] []) (fun i23 _ _=>bif Nat.beq i23 0 then (some (S1 (.bool true))) else(none)) (fun L6 _=>some (S1 (zwK L6 0))))))
theorem p59(O:Orc)(a0:DV):pF O zAR 59 [S1 a0]=P59 O a0:=by kernel_rfl
def P60(O:Orc)(a b c d f h:DV):Option DA:=b1 (O 59 [S1 a]) fun v0=>za (zxd v0) fun v1=>ifB v1 (some (S1 (I6 8))) (b1 (O 59 [S1 b]) fun v2=>za (zxd v2) fun v3=>ifB v3 (some (S1 (I6 8))) (b1 (O 84 [SA [c,d]]) fun v4=>za (zwJ .neq v4 (I6 0)) fun v5=>ifB v5 (some (S1 v4)) (b1 (O 85 [S1 f]) fun v6=>za (zxd v6) fun v7=>ifB v7 (some (S1 (I6 3))) (za (zwO h) fun v8=>za (zwJ .eql v8 (I6 0)) fun v9=>ifB v9 (some (S1 (I6 13))) (za (zwO h) fun v10=>za (zwJ .gtr v10 (I6 128)) fun v11=>ifB v11 (some (S1 (I6 4))) (b1 (O 86 [S1 h]) fun v12=>some (S1 v12)))))))
theorem p60(O:Orc)(a b c d f h:DV):pF O an0 60 [SA [a,b,c,d,f,h]]=P60 O a b c d f h:=by kernel_rfl
def zAQ:Nat→Option LA:=fun i=>match i with|0=>some ⟨[.slot 25],[],[],[(2,1048576)],[],[],[.slot 4],[],[]⟩|_=>none
def zoc(O:Orc)(v4 a b c d:DV)(L7:List DV)(M8:List OC):Option PX:=za (zwJ .lss (zwK L7 0) v4) fun v9=>ifB v9 (za (zwP 4 a (zwK L7 0)) fun x10=>b1 (O 88 [SA [b,c,d],SA [atD x10 0,atD x10 1,atD x10 2,atD x10 3]]) fun v11=>za (zwJ .neq v11 (I6 0)) fun v12=>ifB v12 (some (.ret,[v11],[some (zQ (zwL M8 0))])) (za (zxD (.inl 2) (.one (atD x10 0)) (.one (atD x10 0))) fun _q13=>za (zeR (.inl 2) 1048576 (.one (atD x10 0)) (zQ (zwL M8 0))) fun r14=>ifB (dsO (lkD (.one (.bool false)) r14)) (za (zwJ .neq (I6 9) (I6 0)) fun v15=>ifB v15 (some (.ret,[I6 9],[some (zQ (zwL M8 0))])) (za (zwJ .add (zwK L7 0) (I6 1)) fun v16=>some (.normal,[v16],[some (zQ (zwL M8 0))]))) (za (zxD (.inl 2) (.one (atD x10 0)) (.one (atD x10 0))) fun _q17=>za (zya (.inl 2) 1048576 (.one (atD x10 0)) [atD x10 0,.bool true] (zQ (zwL M8 0))) fun e18=>za (zwJ .neq (I6 0) (I6 0)) fun v19=>ifB v19 (some (.ret,[I6 0],[some e18])) (za (zwJ .add (zwK L7 0) (I6 1)) fun v20=>some (.normal,[v20],[some e18]))))) (some (.exit 0,[],[some (zQ (zwL M8 0))]))
def P62(O:Orc)(_a b _c _d _f _h j m r:DV):Option DA:=b1 (O 87 [SA [j,m]]) fun v0=>za (zwJ .neq v0 (I6 0)) fun v1=>ifB v1 (some (S1 v0)) (za (zwO r) fun v2=>za (zwJ .gtr v2 (I6 60)) fun v3=>ifB v3 (some (S1 (I6 4))) (za (zwO r) fun v4=>yL (zL (zoc O v4 r b j m) [I6 0] [some []]) (fun i21 _ _=>bif Nat.beq i21 0 then (some (S1 (I6 0))) else(none)) (fun L5 _=>some (S1 (zwK L5 0)))))
theorem p62(O:Orc)(a b c d f h j m r:DV):pF O zAQ 62 [SA [a,b,c,d],SA [f,h,j,m,r]]=P62 O a b c d f h j m r:=by kernel_rfl
def zAP:Nat→Option LA:=fun i=>match i with|0=>some ⟨[.slot 19],[],[],[],[],[],[.slot 4],[],[]⟩|1=>some ⟨[.slot 29],[],[],[],[],[],[.slot 4],[],[]⟩|_=>none
def zgE(O:Orc)(v15 a1 a0:DV)(L18:List DV)(_:List OC):Option PX:=za (zwJ .lss (zwK L18 0) v15) fun v20=>ifB v20 (za (zwP 5 a1 (zwK L18 0)) fun x21=>b1 (O 59 [S1 (atD x21 0)]) fun v22=>za (zxd v22) fun v23=>ifB v23 (some (.ret,[I6 8],[])) (za (jk 5 a1 none (some (zwK L18 0))) fun v24=>b1s (O 89 [S1 v24,S1 (.fn 90 [[atD x21 0,atD x21 1,atD x21 2,atD x21 3,atD x21 4]])]) fun v25=>ifB v25 (some (.ret,[I6 9],[])) (za (zwJ .lss (atD x21 1) (I6 0)) fun v26=>ifB v26 (some (.ret,[I6 10],[])) (za (zwO a0) fun v27=>za (zwJ .geq (atD x21 1) v27) fun v28=>ifB v28 (some (.ret,[I6 10],[])) (za (zwJ .lss (atD x21 2) (I6 0)) fun v29=>ifB v29 (some (.ret,[I6 10],[])) (za (zwO a0) fun v30=>za (zwJ .geq (atD x21 2) v30) fun v31=>ifB v31 (some (.ret,[I6 10],[])) (za (zwJ .lss (atD x21 3) (I6 (-127))) fun v32=>ifB v32 (some (.ret,[I6 3],[])) (za (zwJ .gtr (atD x21 3) (I6 127)) fun v33=>ifB v33 (some (.ret,[I6 3],[])) (za (zwJ .eql (atD x21 1) (atD x21 2)) fun v34=>ifB v34 (za (zwJ .eql (atD x21 3) (I6 0)) fun v35=>ifB v35 (some (.ret,[I6 7],[])) (za (zwJ .add (zwK L18 0) (I6 1)) fun v36=>some (.normal,[v36],[]))) (za (zwJ .add (zwK L18 0) (I6 1)) fun v37=>some (.normal,[v37],[]))))))))))) (some (.exit 2,[],[]))
def zob(O:Orc)(v4 a0:DV)(L7:List DV)(_:List OC):Option PX:=za (zwJ .lss (zwK L7 0) v4) fun v9=>ifB v9 (za (zwP 2 a0 (zwK L7 0)) fun x10=>b1 (O 87 [SA [atD x10 0,atD x10 1]]) fun v11=>za (zwJ .neq v11 (I6 0)) fun v12=>ifB v12 (some (.ret,[I6 23],[])) (za (zwJ .add (zwK L7 0) (I6 1)) fun v13=>some (.normal,[v13],[]))) (some (.exit 0,[],[]))
def P63(O:Orc)(a0 a1:DV):Option DA:=za (zwO a0) fun v0=>za (zwJ .gtr v0 (I6 8)) fun v1=>ifB v1 (some (S1 (I6 4))) (za (zwO a1) fun v2=>za (zwJ .gtr v2 (I6 40)) fun v3=>ifB v3 (some (S1 (I6 4))) (za (zwO a0) fun v4=>yL (zL (zob O v4 a0) [I6 0] []) (fun i14 _ _=>bif Nat.beq i14 0 then (za (zwO a1) fun v15=>yL (zL (zgE O v15 a1 a0) [I6 0] []) (fun i38 _ _=>bif Nat.beq i38 2 then (some (S1 (I6 0))) else(none)) (fun L16 _=>some (S1 (zwK L16 0)))) else(none)) (fun L5 _=>some (S1 (zwK L5 0)))))
theorem p63(O:Orc)(a0 a1:DV):pF O zAP 63 [S1 a0,S1 a1]=P63 O a0 a1:=by kernel_rfl
def P68(_O:Orc)(a0:DV):Option DA:=za (zwJ .rem a0 (U8 16)) fun v0=>za (xA (some [[I6 8,I6 1],[I6 4,I6 1],[I6 16,I6 1],[I6 2,I6 1],[I6 8,I6 3],[I6 8,I6 5],[I6 4,I6 3],[I6 1,I6 1],[I6 32,I6 1],[I6 16,I6 3],[I6 16,I6 5],[I6 32,I6 3],[I6 8,I6 7],[I6 2,I6 3],[I6 1,I6 2],[I6 64,I6 1]]) v0) fun n1=>za (zw7 (some [[I6 8,I6 1],[I6 4,I6 1],[I6 16,I6 1],[I6 2,I6 1],[I6 8,I6 3],[I6 8,I6 5],[I6 4,I6 3],[I6 1,I6 1],[I6 32,I6 1],[I6 16,I6 3],[I6 16,I6 5],[I6 32,I6 3],[I6 8,I6 7],[I6 2,I6 3],[I6 1,I6 2],[I6 64,I6 1]]) n1) fun x2=>some (SA [atD x2 0,atD x2 1])
theorem p68(O:Orc)(a0:DV):pF O an0 68 [S1 a0]=P68 O a0:=by kernel_rfl
def P69(_O:Orc)(a0:DV):Option DA:=za (zwJ .rem a0 (U8 6)) fun v0=>za (xA (some [[I6 8,I6 1],[I6 4,I6 1],[I6 16,I6 1],[I6 8,I6 3],[I6 2,I6 1],[I6 8,I6 5]]) v0) fun n1=>za (zw7 (some [[I6 8,I6 1],[I6 4,I6 1],[I6 16,I6 1],[I6 8,I6 3],[I6 2,I6 1],[I6 8,I6 5]]) n1) fun x2=>some (SA [atD x2 0,atD x2 1])
theorem p69(O:Orc)(a0:DV):pF O an0 69 [S1 a0]=P69 O a0:=by kernel_rfl
def P70(O:Orc)(a b c d:DV):Option DA:=b1 (O 92 [SA [a,b],SA [c,d]]) fun v0=>za (zwJ .neq v0 (I6 0)) fun v1=>ifB v1 (some (.tup [.one (I6 0),.one v0])) (b1 (O 93 [SA [a,b],SA [c,d]]) fun v2=>some (.tup [.one v2,.one (I6 0)]))
theorem p70(O:Orc)(a b c d:DV):pF O an0 70 [SA [a,b],SA [c,d]]=P70 O a b c d:=by kernel_rfl
def P83(_O:Orc)(a0:DV):Option DA:=za (zwJ .geq a0 (U8 65)) fun v0=>ifB v0 (za (zwJ .leq a0 (U8 90)) fun v1=>ifB v1 (some (S1 (.bool true))) (za (zwJ .geq a0 (U8 97)) fun v2=>ifB v2 (za (zwJ .leq a0 (U8 122)) fun v3=>some (S1 v3)) (some (S1 (.bool false))))) (za (zwJ .geq a0 (U8 97)) fun v4=>ifB v4 (za (zwJ .leq a0 (U8 122)) fun v5=>some (S1 v5)) (some (S1 (.bool false))))
theorem p83(O:Orc)(a0:DV):pF O an0 83 [S1 a0]=P83 O a0:=by kernel_rfl
def P84(O:Orc)(a b:DV):Option DA:=b1 (O 107 [SA [a,b]]) fun v0=>za (zwJ .neq v0 (I6 0)) fun v1=>ifB v1 (some (S1 (I6 2))) (za (zwJ .leq a (I6 0)) fun v2=>ifB v2 (some (S1 (I6 3))) (za (zwJ .mul (I6 128) b) fun v3=>za (zwJ .gtr a v3) fun v4=>ifB v4 (some (S1 (I6 3))) (za (zwJ .gtr b (I6 128)) fun v5=>ifB v5 (some (S1 (I6 4))) (some (S1 (I6 0))))))
theorem p84(O:Orc)(a b:DV):pF O an0 84 [SA [a,b]]=P84 O a b:=by kernel_rfl
def P85(_O:Orc)(a0:DV):Option DA:=za (zwJ .geq a0 (I6 (-256))) fun v0=>ifB v0 (za (zwJ .leq a0 (I6 256)) fun v1=>some (S1 v1)) (some (S1 (.bool false)))
theorem p85(O:Orc)(a0:DV):pF O an0 85 [S1 a0]=P85 O a0:=by kernel_rfl
def P86(O:Orc)(a0:DV):Option DA:=b1 (O 108 [S1 a0,S1 (.fn 109 [])]) fun v0=>ifB v0 (some (S1 (I6 3))) (some (S1 (I6 0)))
theorem p86(O:Orc)(a0:DV):pF O an0 86 [S1 a0]=P86 O a0:=by kernel_rfl
def P87(_O:Orc)(a b:DV):Option DA:=za (zwJ .lss a (I6 0)) fun v0=>ifB v0 (some (S1 (I6 3))) (za (zwJ .gtr b (I6 127)) fun v1=>ifB v1 (some (S1 (I6 3))) (za (zwJ .gtr a b) fun v2=>ifB v2 (some (S1 (I6 23))) (some (S1 (I6 0)))))
theorem p87(O:Orc)(a b:DV):pF O an0 87 [SA [a,b]]=P87 O a b:=by kernel_rfl
def zAK:Nat→Option LA:=fun i=>match i with|0=>some ⟨[.slot 38],[],[],[],[],[],[.slot 4],[],[]⟩|_=>none
def zgA(O:Orc)(v10 a b c d:DV)(L13:List DV)(_:List OC):Option PX:=za (zwJ .lss (zwK L13 0) v10) fun v15=>ifB v15 (za (zwP 3 a (zwK L13 0)) fun x16=>za (uK false (atD x16 0) [atD x16 1]) fun v17=>za (zwJ .lss v17 b) fun v18=>ifB v18 (some (.ret,[I6 23],[])) (za (uK true (atD x16 0) [atD x16 1]) fun v19=>za (zwJ .gtr v19 c) fun v20=>ifB v20 (some (.ret,[I6 23],[])) (za (zwJ .gtr (atD x16 0) (atD x16 1)) fun v21=>ifB v21 (some (.ret,[I6 6],[])) (za (zwJ .gtr (zwK L13 0) (I6 0)) fun v22=>ifB v22 (za (zwJ .sub (zwK L13 0) (I6 1)) fun v23=>za (zwP 3 a v23) fun x24=>za (zwJ .leq (atD x16 0) (atD x24 1)) fun v25=>ifB v25 (some (.ret,[I6 6],[])) (b1 (O 111 [SA [d,b,c],S1 (atD x16 2)]) fun v26=>za (zwJ .neq v26 (I6 0)) fun v27=>ifB v27 (some (.ret,[v26],[])) (za (zwJ .add (zwK L13 0) (I6 1)) fun v28=>some (.normal,[v28],[])))) (b1 (O 111 [SA [d,b,c],S1 (atD x16 2)]) fun v29=>za (zwJ .neq v29 (I6 0)) fun v30=>ifB v30 (some (.ret,[v29],[])) (za (zwJ .add (zwK L13 0) (I6 1)) fun v31=>some (.normal,[v31],[]))))))) (some (.exit 1,[],[]))
def P88(O:Orc)(a b c d f h j:DV):Option DA:=b1 (O 110 [SA [a,b,c]]) fun v0=>za (zwJ .neq v0 (I6 0)) fun v1=>ifB v1 (some (S1 v0)) (b1 (O 59 [S1 d]) fun v2=>za (zxd v2) fun v3=>ifB v3 (some (S1 (I6 8))) (b1 (O 84 [SA [f,h]]) fun v4=>za (zwJ .neq v4 (I6 0)) fun v5=>ifB v5 (some (S1 v4)) (za (zwO j) fun v6=>za (zwJ .eql v6 (I6 0)) fun v7=>ifB v7 (some (S1 (I6 13))) (za (zwO j) fun v8=>za (zwJ .gtr v8 (I6 12)) fun v9=>ifB v9 (some (S1 (I6 4))) (za (zwO j) fun v10=>yL (zL (zgA O v10 j b c a) [I6 0] []) (fun i32 _ _=>bif Nat.beq i32 1 then (some (S1 (I6 0))) else(none)) (fun L11 _=>some (S1 (zwK L11 0))))))))
theorem p88(O:Orc)(a b c d f h j:DV):pF O zAK 88 [SA [a,b,c],SA [d,f,h,j]]=P88 O a b c d f h j:=by kernel_rfl
def P89(O:Orc)(a0 a1:DV):Option DA:=b1 (O 112 [S1 a0,S1 a1]) fun v0=>za (zwJ .geq v0 (I6 0)) fun v1=>some (S1 v1)
theorem p89(O:Orc)(a0 a1:DV):pF O an0 89 [S1 a0,S1 a1]=P89 O a0 a1:=by kernel_rfl
def P90(_O:Orc)(a _b _c _d _f h _j _m _r _s:DV):Option DA:=za (zx2 .eql a h) fun v0=>some (S1 v0)
theorem p90(O:Orc)(a b c d f h j m r s:DV):pF O an0 90 [SA [a,b,c,d,f],S1 (.fp [h,j,m,r,s] 0)]=P90 O a b c d f h j m r s:=by kernel_rfl
def P92(O:Orc)(a b c d:DV):Option DA:=b1 (O 84 [SA [a,b]]) fun v0=>za (zwJ .neq v0 (I6 0)) fun v1=>ifB v1 (some (S1 v0)) (b1 (O 84 [SA [c,d]]) fun v2=>some (S1 v2))
theorem p92(O:Orc)(a b c d:DV):pF O an0 92 [SA [a,b],SA [c,d]]=P92 O a b c d:=by kernel_rfl
def zAJ:Nat→Option LA:=fun i=>match i with|0=>some ⟨[.slot 5,.slot 7],[],[],[],[.slot 5,.slot 7],[],[],[],[]⟩|1=>some ⟨[.slot 6,.slot 7],[],[],[],[.slot 6,.slot 7],[],[],[],[]⟩|2=>some ⟨[.slot 12,.slot 7],[],[],[],[.slot 7],[],[],[],[]⟩|_=>none
def zgz(O:Orc)(t20:List DS)(L26:List DV)(_:List OC):Option PX:=b1 (O 117 [S1 (dsO (zwV t20 0)),S1 (zwK L26 0)]) fun v28=>za (zwJ .gtr v28 (I6 0)) fun v29=>ifB v29 (za (zwJ .add (zwK L26 1) (I6 1)) fun v30=>b1 (O 116 [S1 (zwK L26 0),S1 (.str ⟨#[52]⟩)]) fun v31=>some (.normal,[v31,v30],[])) (some (.exit 4,[zwK L26 1],[]))
def zdX(L2:List DV)(L12:List DV)(_:List OC):Option PX:=za (zwJ .mul (I6 2) (zwK L12 0)) fun v14=>za (zwJ .geq (zwK L2 0) v14) fun v15=>ifB v15 (za (zwJ .mul (zwK L12 0) (I6 2)) fun v16=>za (zwJ .add (zwK L12 1) (I6 12)) fun v17=>some (.normal,[v16,v17],[])) (some (.exit 2,[zwK L12 0,zwK L12 1],[]))
def zlb(v1:DV)(L4:List DV)(_:List OC):Option PX:=za (zwJ .lss (zwK L4 0) v1) fun v6=>ifB v6 (za (zwJ .mul (zwK L4 0) (I6 2)) fun v7=>za (zwJ .sub (zwK L4 1) (I6 12)) fun v8=>some (.normal,[v7,v8],[])) (some (.exit 0,[zwK L4 0,zwK L4 1],[]))
def P93(O:Orc)(a b c d:DV):Option DA:=za (zwJ .mul c b) fun v0=>za (zwJ .mul d a) fun v1=>yL (zL (zlb v1) [v0,I6 0] []) (fun i9 L2 _=>bif Nat.beq i9 0 then (yL (zL (zdX L2) [v1,zwK L2 1] []) (fun i18 L10 _=>bif Nat.beq i18 2 then (b1 (O 115 [S1 (zwK L2 0)]) fun v19=>bT [none,none] (O 114 [S1 v19,S1 (I6 24)]) fun t20=>b1 (O 115 [S1 (zwK L10 0)]) fun v21=>bT [none,none] (O 114 [S1 v21,S1 (I6 24)]) fun t22=>b1 (O 116 [S1 (dsO (zwV t22 0)),S1 (.str ⟨#[50]⟩)]) fun v23=>yL (zL (zgz O t20) [v23,zwK L10 1] []) (fun i32 L24 _=>bif Nat.beq i32 4 then (some (S1 (zwK L24 0))) else(none)) (fun _ _=>none)) else(none)) (fun _ _=>none)) else(none)) (fun _ _=>none)
theorem p93(O:Orc)(a b c d:DV):pF O zAJ 93 [SA [a,b],SA [c,d]]=P93 O a b c d:=by kernel_rfl
def zz7(O:Orc)(a b:DV):Option DA:=za (zwJ .leq b (I6 0)) fun v0=>ifB v0 (some (S1 (I6 2))) (za (zwJ .gtr b (I6 1000000)) fun v1=>ifB v1 (some (S1 (I6 2))) (za (zwJ .lss a (I6 (-1000000))) fun v2=>ifB v2 (some (S1 (I6 2))) (za (zwJ .gtr a (I6 1000000)) fun v3=>ifB v3 (some (S1 (I6 2))) (b1 (O 137 [S1 a]) fun v4=>za (yQ .u64 b) fun v5=>b1 (O 136 [S1 v4,S1 v5]) fun v6=>za (zwJ .neq v6 (U64 1)) fun v7=>ifB v7 (some (S1 (I6 2))) (some (S1 (I6 0)))))))
theorem zBm(O:Orc)(a b:DV):pF O an0 107 [SA [a,b]]=zz7 O a b:=by kernel_rfl
def zz6(O:Orc)(a0 a1:DV):Option DA:=b1 (O 138 [S1 a0,S1 a1]) fun v0=>za (zwJ .geq v0 (I6 0)) fun v1=>some (S1 v1)
theorem zBl(O:Orc)(a0 a1:DV):pF O an0 108 [S1 a0,S1 a1]=zz6 O a0 a1:=by kernel_rfl
def zz5(_O:Orc)(a0:DV):Option DA:=za (zwJ .lss a0 (I6 0)) fun v0=>ifB v0 (some (S1 (.bool true))) (za (zwJ .gtr a0 (I6 1000000)) fun v1=>some (S1 v1))
theorem zyI(O:Orc)(a0:DV):pF O an0 109 [S1 a0]=zz5 O a0:=by kernel_rfl
def zvd:Nat→Option LA:=fun i=>match i with|0=>some ⟨[.slot 13],[],[],[],[],[],[.slot 2],[],[]⟩|_=>none
def zgV(O:Orc)(v2 a:DV)(L5:List DV)(_:List OC):Option PX:=za (zwJ .lss (zwK L5 0) v2) fun v7=>ifB v7 (za (zwP 6 a (zwK L5 0)) fun x8=>b1 (O 60 [SA [atD x8 0,atD x8 1,atD x8 2,atD x8 3,atD x8 4,atD x8 5]]) fun v9=>za (zwJ .neq v9 (I6 0)) fun v10=>ifB v10 (some (.ret,[v9],[])) (za (zwJ .add (zwK L5 0) (I6 1)) fun v11=>some (.normal,[v11],[]))) (some (.exit 0,[],[]))
def zz4(O:Orc)(a b c:DV):Option DA:=za (zwO a) fun v0=>za (zwJ .gtr v0 (I6 60)) fun v1=>ifB v1 (some (S1 (I6 4))) (za (zwO a) fun v2=>yL (zL (zgV O v2 a) [I6 0] []) (fun i12 _ _=>bif Nat.beq i12 0 then (b1 (O 87 [SA [b,c]]) fun v13=>some (S1 v13)) else(none)) (fun L3 _=>some (S1 (zwK L3 0))))
theorem zzs(O:Orc)(a b c:DV):pF O zvd 110 [SA [a,b,c]]=zz4 O a b c:=by kernel_rfl
def zvc:Nat→Option LA:=fun i=>match i with|0=>some ⟨[.slot 12],[],[],[],[],[],[.slot 4],[],[]⟩|_=>none
def zgU(O:Orc)(v2 a1 a:DV)(L5:List DV)(_:List OC):Option PX:=za (zwJ .lss (zwK L5 0) v2) fun v7=>ifB v7 (za (zwP 2 a1 (zwK L5 0)) fun x8=>za (zwJ .lss (atD x8 0) (I6 0)) fun v9=>ifB v9 (some (.ret,[I6 10],[])) (za (zwO a) fun v10=>za (zwJ .geq (atD x8 0) v10) fun v11=>ifB v11 (some (.ret,[I6 10],[])) (za (zwJ .lss (atD x8 1) (I6 (-127))) fun v12=>ifB v12 (some (.ret,[I6 3],[])) (za (zwJ .gtr (atD x8 1) (I6 127)) fun v13=>ifB v13 (some (.ret,[I6 3],[])) (za (jk 2 a1 none (some (zwK L5 0))) fun v14=>b1 (O 139 [S1 v14,SA [atD x8 0,atD x8 1]]) fun v15=>ifB v15 (some (.ret,[I6 9],[])) (za (zwJ .add (zwK L5 0) (I6 1)) fun v16=>some (.normal,[v16],[]))))))) (some (.exit 0,[],[]))
def zz3(O:Orc)(a _b _c a1:DV):Option DA:=za (zwO a1) fun v0=>za (zwJ .gtr v0 (I6 8)) fun v1=>ifB v1 (some (S1 (I6 4))) (za (zwO a1) fun v2=>yL (zL (zgU O v2 a1 a) [I6 0] []) (fun i17 _ _=>bif Nat.beq i17 0 then (some (S1 (I6 0))) else(none)) (fun L3 _=>some (S1 (zwK L3 0))))
theorem zBk(O:Orc)(a b c a1:DV):pF O zvc 111 [SA [a,b,c],S1 a1]=zz3 O a b c a1:=by kernel_rfl
def zvb:Nat→Option LA:=fun i=>match i with|0=>some ⟨[.slot 8],[],[],[],[],[],[.slot 4],[],[]⟩|_=>none
def zgT(O:Orc)(v0 a0 a1:DV)(L3:List DV)(_:List OC):Option PX:=za (zwJ .lss (zwK L3 0) v0) fun v5=>ifB v5 (za (zwP 5 a0 (zwK L3 0)) fun x6=>b1 (zxi O a1 [SA [atD x6 0,atD x6 1,atD x6 2,atD x6 3,atD x6 4]]) fun v7=>ifB v7 (some (.ret,[zwK L3 0],[])) (za (zwJ .add (zwK L3 0) (I6 1)) fun v8=>some (.normal,[v8],[]))) (some (.exit 0,[],[]))
def zz2(O:Orc)(a0 a1:DV):Option DA:=za (zwO a0) fun v0=>yL (zL (zgT O v0 a0 a1) [I6 0] []) (fun i9 _ _=>bif Nat.beq i9 0 then (some (S1 (I6 (-1)))) else(none)) (fun L1 _=>some (S1 (zwK L1 0)))
theorem zBj(O:Orc)(a0 a1:DV):pF O zvb 112 [S1 a0,S1 a1]=zz2 O a0 a1:=by kernel_rfl
def zu8:Nat→Option LA:=fun i=>match i with|0=>some ⟨[.slot 1,.slot 0],[],[],[],[.slot 0],[],[],[],[]⟩|_=>none
def zj0(L2:List DV)(_:List OC):Option PX:=za (zwJ .gtr (zwK L2 0) (U64 0)) fun v4=>ifB v4 (za (zwJ .rem (zwK L2 1) (zwK L2 0)) fun v5=>some (.normal,[v5,zwK L2 0],[])) (some (.exit 0,[zwK L2 1],[]))
def zzW(_O:Orc)(a0 a1:DV):Option DA:=yL (zL zj0 [a1,a0] []) (fun i6 L0 _=>bif Nat.beq i6 0 then (some (S1 (zwK L0 0))) else(none)) (fun _ _=>none)
theorem zBd(O:Orc)(a0 a1:DV):pF O zu8 136 [S1 a0,S1 a1]=zzW O a0 a1:=by kernel_rfl
def zzV(_O:Orc)(a0:DV):Option DA:=za (zwJ .lss a0 (I6 0)) fun v0=>ifB v0 (za (yQ .u64 a0) fun v1=>za (zyY v1) fun v2=>some (S1 v2)) (za (yQ .u64 a0) fun v3=>some (S1 v3))
theorem zBc(O:Orc)(a0:DV):pF O an0 137 [S1 a0]=zzV O a0:=by kernel_rfl
def zu7:Nat→Option LA:=fun i=>match i with|0=>some ⟨[.slot 8],[],[],[],[],[],[.slot 4],[],[]⟩|_=>none
def zgN(O:Orc)(v0 a0 a1:DV)(L3:List DV)(_:List OC):Option PX:=za (zwJ .lss (zwK L3 0) v0) fun v5=>ifB v5 (za (zwP 1 a0 (zwK L3 0)) fun x6=>b1 (zxi O a1 [S1 (atD x6 0)]) fun v7=>ifB v7 (some (.ret,[zwK L3 0],[])) (za (zwJ .add (zwK L3 0) (I6 1)) fun v8=>some (.normal,[v8],[]))) (some (.exit 0,[],[]))
def zzU(O:Orc)(a0 a1:DV):Option DA:=za (zwO a0) fun v0=>yL (zL (zgN O v0 a0 a1) [I6 0] []) (fun i9 _ _=>bif Nat.beq i9 0 then (some (S1 (I6 (-1)))) else(none)) (fun L1 _=>some (S1 (zwK L1 0)))
theorem zBb(O:Orc)(a0 a1:DV):pF O zu7 138 [S1 a0,S1 a1]=zzU O a0 a1:=by kernel_rfl
def zzT(O:Orc)(a0 a b:DV):Option DA:=b1 (O 164 [S1 a0,SA [a,b]]) fun v0=>za (zwJ .geq v0 (I6 0)) fun v1=>some (S1 v1)
theorem zBa(O:Orc)(a0 a b:DV):pF O an0 139 [S1 a0,SA [a,b]]=zzT O a0 a b:=by kernel_rfl
def zu6:Nat→Option LA:=fun i=>match i with|0=>some ⟨[.slot 8],[],[],[],[],[],[.slot 4],[],[]⟩|_=>none
def zgM(v0 a0 a b:DV)(L3:List DV)(_:List OC):Option PX:=za (zwJ .lss (zwK L3 0) v0) fun v5=>ifB v5 (za (zwP 2 a0 (zwK L3 0)) fun x6=>za (zxx [1,1] [a,b] [atD x6 0,atD x6 1]) fun q7=>ifB (.bool q7) (some (.ret,[zwK L3 0],[])) (za (zwJ .add (zwK L3 0) (I6 1)) fun v8=>some (.normal,[v8],[]))) (some (.exit 0,[],[]))
def zzS(_O:Orc)(a0 a b:DV):Option DA:=za (zwO a0) fun v0=>yL (zL (zgM v0 a0 a b) [I6 0] []) (fun i9 _ _=>bif Nat.beq i9 0 then (some (S1 (I6 (-1)))) else(none)) (fun L1 _=>some (S1 (zwK L1 0)))
theorem zA9(O:Orc)(a0 a b:DV):pF O zu6 164 [S1 a0,SA [a,b]]=zzS O a0 a b:=by kernel_rfl
def P7(O:Orc)(a b c d f h j m r s w y z:DV):Option DA:=b1 (O 9 []) fun v0=>za (zxd v0) fun v1=>ifB v1 (b1 (O 9 []) fun v2=>some (S1 v2)) (b1 (O 10 [SA [a,b,c]]) fun v3=>za (zxd v3) fun v4=>ifB v4 (b1 (O 9 []) fun v5=>some (S1 v5)) (bA 4 (O 11 [SA [a,b,c]]) fun g6=>bA 3 (O 12 [SA [atD g6 0,atD g6 1,atD g6 2,atD g6 3],SA [d,f,h,j,m]]) fun g7=>bA 3 (O 12 [SA [atD g6 0,atD g6 1,atD g6 2,atD g6 3],SA [r,s,w,y,z]]) fun g8=>bT [some 2,none,none] (O 14 [SA [atD g6 0,atD g6 1,atD g6 2,atD g6 3],SA [atD g7 0,atD g7 1,atD g7 2],SA [atD g8 0,atD g8 1,atD g8 2]]) fun t9=>bT [some 2,none,none] (O 20 [SA [atD g6 0,atD g6 1,atD g6 2,atD g6 3],SA [atD g7 0,atD g7 1,atD g7 2],SA [atD g8 0,atD g8 1,atD g8 2]]) fun t10=>bT [some 2,none,none] (O 20 [SA [atD g6 0,atD g6 1,atD g6 2,atD g6 3],SA [atD g8 0,atD g8 1,atD g8 2],SA [atD g7 0,atD g7 1,atD g7 2]]) fun t11=>bT [none,none] (O 17 [SA [atD g6 0,atD g6 1,atD g6 2,atD g6 3],SA [atD g7 0,atD g7 1,atD g7 2]]) fun t12=>bT [none,none] (O 17 [SA [atD g6 0,atD g6 1,atD g6 2,atD g6 3],SA [atD g8 0,atD g8 1,atD g8 2]]) fun t13=>b1 (O 26 [S1 (dsO (zwV t12 0)),S1 (dsO (zwV t13 0)),S1 (.fn 27 [])]) fun v14=>bA 3 (O 12 [SA [atD g6 0,atD g6 1,atD g6 2,atD g6 3],SA [d,f,h,j,U8 255]]) fun g15=>bT [some 2,none,none] (O 20 [SA [atD g6 0,atD g6 1,atD g6 2,atD g6 3],SA [atD g15 0,atD g15 1,atD g15 2],SA [atD g7 0,atD g7 1,atD g7 2]]) fun t16=>bA 3 (O 12 [SA [atD g6 0,atD g6 1,atD g6 2,atD g6 3],SA [U8 255,U8 255,U8 255,U8 255,atD [d,f,h,j,m] 4]]) fun g17=>bT [some 2,none,none] (O 20 [SA [atD g6 0,atD g6 1,atD g6 2,atD g6 3],SA [atD g7 0,atD g7 1,atD g7 2],SA [atD g17 0,atD g17 1,atD g17 2]]) fun t18=>za (zwJ .eql (dsO (zwV t9 2)) (I6 0)) fun v19=>ifB v19 (za (zwJ .eql (dsO (zwV t10 2)) (I6 0)) fun v20=>ifB v20 (za (zwJ .eql (dsO (zwV t11 2)) (I6 0)) fun v21=>ifB v21 (za (zwJ .eql (dsO (zwV t12 1)) (I6 0)) fun v22=>ifB v22 (za (zwJ .eql (dsO (zwV t13 1)) (I6 0)) fun v23=>ifB v23 (za (zwJ .eql (dsO (zwV t16 2)) (I6 0)) fun v24=>ifB v24 (za (zwJ .eql (dsO (zwV t18 2)) (I6 0)) fun v25=>ifB v25 (ifB (dsO (zwV t10 1)) (za (eqD 0 (dsO (zwV t9 1)) (dsO (zwV t11 1))) fun q26=>ifB (.bool q26) (za (eqD 0 (dsO (zwV t9 1)) v14) fun q27=>ifB (.bool q27) (ifB (dsO (zwV t16 1)) (some (S1 (dsO (zwV t18 1)))) (some (S1 (.bool false)))) (some (S1 (.bool false)))) (some (S1 (.bool false)))) (za (eqD 0 (dsO (zwV t9 1)) (.bool false)) fun q28=>ifB (.bool q28) (za (eqD 0 (dsO (zwV t9 1)) v14) fun q29=>ifB (.bool q29) (ifB (dsO (zwV t16 1)) (some (S1 (dsO (zwV t18 1)))) (some (S1 (.bool false)))) (some (S1 (.bool false)))) (some (S1 (.bool false))))) (some (S1 (.bool false)))) (some (S1 (.bool false)))) (some (S1 (.bool false)))) (some (S1 (.bool false)))) (some (S1 (.bool false)))) (some (S1 (.bool false)))) (some (S1 (.bool false)))))
theorem p7(O:Orc)(a b c d f h j m r s w y z:DV):pF O an0 7 [SA [a,b,c],SA [d,f,h,j,m],SA [r,s,w,y,z]]=P7 O a b c d f h j m r s w y z:=by kernel_rfl
def P14(O:Orc)(a b c d f h j m r s:DV):Option DA:=b1s (O 38 [SA [a,b,c,d],S1 (.lst 3 [[f,h,j],[m,r,s]])]) fun v0=>za (zwJ .neq v0 (I6 0)) fun v1=>ifB v1 (some (.tup [.agg [I6 0,I6 0],.one (.bool false),.one v0])) (b1 (O 39 [SA [a,b,c,d],SA [f,h,j]]) fun v2=>b1 (O 39 [SA [a,b,c,d],SA [m,r,s]]) fun v3=>bT [some 2,none] (O 46 [SA [a,b,c,d],S1 v2,S1 v3,S1 (.fn 47 [])]) fun t4=>some (.tup [.agg [atD (dsA (zwV t4 0)) 0,atD (dsA (zwV t4 0)) 1],.one (dsO (zwV t4 1)),.one (I6 0)]))
theorem p14(O:Orc)(a b c d f h j m r s:DV):pF O an0 14 [SA [a,b,c,d],SA [f,h,j],SA [m,r,s]]=P14 O a b c d f h j m r s:=by kernel_rfl
def P17(O:Orc)(a b c d f h j:DV):Option DA:=b1s (O 38 [SA [a,b,c,d],S1 (.lst 3 [[f,h,j]])]) fun v0=>za (zwJ .neq v0 (I6 0)) fun v1=>ifB v1 (some (.tup [.one .nils,.one v0])) (b1 (O 39 [SA [a,b,c,d],SA [f,h,j]]) fun v2=>some (.tup [.one v2,.one (I6 0)]))
theorem p17(O:Orc)(a b c d f h j:DV):pF O an0 17 [SA [a,b,c,d],SA [f,h,j]]=P17 O a b c d f h j:=by kernel_rfl
def P18(O:Orc)(a0 a1:DV):Option DA:=b1 (O 47 [S1 a0,S1 a1]) fun v0=>some (S1 v0)
theorem p18(O:Orc)(a0 a1:DV):pF O an0 18 [S1 a0,S1 a1]=P18 O a0 a1:=by kernel_rfl
def P20(O:Orc)(a b c d f h j m r s:DV):Option DA:=b1s (O 38 [SA [a,b,c,d],S1 (.lst 3 [[f,h,j],[m,r,s]])]) fun v0=>za (zwJ .neq v0 (I6 0)) fun v1=>ifB v1 (some (.tup [.agg [I6 0,I6 0],.one (.bool false),.one v0])) (b1 (O 39 [SA [a,b,c,d],SA [f,h,j]]) fun v2=>b1 (O 39 [SA [a,b,c,d],SA [m,r,s]]) fun v3=>bT [some 2,none] (O 46 [SA [a,b,c,d],S1 v2,S1 v3,S1 (.fn 50 [])]) fun t4=>some (.tup [.agg [atD (dsA (zwV t4 0)) 0,atD (dsA (zwV t4 0)) 1],.one (dsO (zwV t4 1)),.one (I6 0)]))
theorem p20(O:Orc)(a b c d f h j m r s:DV):pF O an0 20 [SA [a,b,c,d],SA [f,h,j],SA [m,r,s]]=P20 O a b c d f h j m r s:=by kernel_rfl
def zA0:Nat→Option LA:=fun i=>match i with|0=>some ⟨[.slot 17],[],[],[],[],[],[.slot 6],[],[]⟩|_=>none
def zok(O:Orc)(v3 a0 a1 a2:DV)(L6:List DV)(_:List OC):Option PX:=za (zwJ .lss (zwK L6 0) v3) fun v8=>ifB v8 (za (zwP 1 a0 (zwK L6 0)) fun x9=>za (zwP 1 a1 (zwK L6 0)) fun x10=>b1 (zxi O a2 [S1 (atD x9 0),S1 (atD x10 0)]) fun v11=>za (zxd v11) fun v12=>ifB v12 (some (.ret,[.bool false],[])) (za (zwJ .add (zwK L6 0) (I6 1)) fun v13=>some (.normal,[v13],[]))) (some (.exit 0,[],[]))
def P26(O:Orc)(a0 a1 a2:DV):Option DA:=za (zwO a0) fun v0=>za (zwO a1) fun v1=>za (zwJ .neq v0 v1) fun v2=>ifB v2 (some (S1 (.bool false))) (za (zwO a0) fun v3=>yL (zL (zok O v3 a0 a1 a2) [I6 0] []) (fun i14 _ _=>bif Nat.beq i14 0 then (some (S1 (.bool true))) else(none)) (fun L4 _=>some (S1 (zwK L4 0))))
theorem p26(O:Orc)(a0 a1 a2:DV):pF O zA0 26 [S1 a0,S1 a1,S1 a2]=P26 O a0 a1 a2:=by kernel_rfl
def P27(O:Orc)(a0 a1:DV):Option DA:=b1 (O 28 [S1 a0,S1 a1,S1 (.fn 18 [])]) fun v0=>some (S1 v0)
theorem p27(O:Orc)(a0 a1:DV):pF O an0 27 [S1 a0,S1 a1]=P27 O a0 a1:=by kernel_rfl
def zAZ:Nat→Option LA:=fun i=>match i with|0=>some ⟨[.slot 17],[],[],[],[],[],[.slot 6],[],[]⟩|_=>none
def zoj(O:Orc)(v3 a0 a1 a2:DV)(L6:List DV)(_:List OC):Option PX:=za (zwJ .lss (zwK L6 0) v3) fun v8=>ifB v8 (za (zwP 1 a0 (zwK L6 0)) fun x9=>za (zwP 1 a1 (zwK L6 0)) fun x10=>b1 (zxi O a2 [S1 (atD x9 0),S1 (atD x10 0)]) fun v11=>za (zxd v11) fun v12=>ifB v12 (some (.ret,[.bool false],[])) (za (zwJ .add (zwK L6 0) (I6 1)) fun v13=>some (.normal,[v13],[]))) (some (.exit 0,[],[]))
def P28(O:Orc)(a0 a1 a2:DV):Option DA:=za (zwO a0) fun v0=>za (zwO a1) fun v1=>za (zwJ .neq v0 v1) fun v2=>ifB v2 (some (S1 (.bool false))) (za (zwO a0) fun v3=>yL (zL (zoj O v3 a0 a1 a2) [I6 0] []) (fun i14 _ _=>bif Nat.beq i14 0 then (some (S1 (.bool true))) else(none)) (fun L4 _=>some (S1 (zwK L4 0))))
theorem p28(O:Orc)(a0 a1 a2:DV):pF O zAZ 28 [S1 a0,S1 a1,S1 a2]=P28 O a0 a1 a2:=by kernel_rfl
def zAV:Nat→Option LA:=fun i=>match i with|0=>some ⟨[.slot 16],[],[],[],[],[],[.slot 4],[],[]⟩|_=>none
def zog(O:Orc)(v2 a1 a b c d:DV)(L5:List DV)(_:List OC):Option PX:=za (zwJ .lss (zwK L5 0) v2) fun v7=>ifB v7 (za (zwP 3 a1 (zwK L5 0)) fun x8=>b1 (O 31 [SA [a,b,c,d],SA [atD x8 0,atD x8 1,atD x8 2]]) fun v9=>za (zwJ .neq v9 (I6 0)) fun v10=>ifB v10 (some (.ret,[v9],[])) (za (zwJ .add (zwK L5 0) (I6 1)) fun v11=>some (.normal,[v11],[]))) (some (.exit 0,[],[]))
def P38(O:Orc)(a b c d a1:DV):Option DA:=b1 (O 30 [SA [a,b,c,d]]) fun v0=>za (zwJ .neq v0 (I6 0)) fun v1=>ifB v1 (some (S1 v0)) (za (zwO a1) fun v2=>yL (zL (zog O v2 a1 a b c d) [I6 0] []) (fun i12 _ _=>bif Nat.beq i12 0 then (some (S1 (I6 0))) else(none)) (fun L3 _=>some (S1 (zwK L3 0))))
theorem p38(O:Orc)(a b c d a1:DV):pF O zAV 38 [SA [a,b,c,d],S1 a1]=P38 O a b c d a1:=by kernel_rfl
def zAT:Nat→Option LA:=fun i=>match i with|0=>some ⟨[.slot 14,.cell 1 0,.cell 1 1],[],[(1,2)],[],[.cell 1 0,.cell 1 1],[],[.slot 9,.cell 1 0,.cell 1 1],[],[]⟩|1=>some ⟨[.slot 22,.cell 1 0,.cell 1 1],[],[(1,2)],[],[.cell 1 0,.cell 1 1],[],[.slot 9,.cell 1 0,.cell 1 1],[],[]⟩|_=>none
def zgF(O:Orc)(v7 a1:DV)(L3:List DV)(a2 a3 a:DV)(L10:List DV)(_:List OC):Option PX:=za (zwJ .lss (zwK L10 0) v7) fun v12=>ifB v12 (za (zwP 1 a1 (zwK L3 0)) fun x13=>za (zwP 1 (atD x13 0) (zwK L10 0)) fun x14=>za (zwP 1 a2 (zwK L3 0)) fun x15=>za (zwP 1 (atD x15 0) (zwK L10 0)) fun x16=>b1 (zxi O a3 [S1 (atD x14 0),S1 (atD x16 0)]) fun v17=>za (zxd v17) fun v18=>ifB v18 (za (zwP 5 a (zwK L3 0)) fun x19=>za (zwJ .add (atD x19 2) (zwK L10 0)) fun v20=>some (.ret,[.bool false,zwK L3 0,v20],[])) (za (zwJ .add (zwK L10 0) (I6 1)) fun v21=>some (.normal,[v21,zwK L10 1,zwK L10 2],[]))) (some (.exit 2,[zwK L10 1,zwK L10 2],[]))
def zld(O:Orc)(v0 a1 a2 a3 a:DV)(L3:List DV)(_:List OC):Option PX:=za (zwJ .lss (zwK L3 0) v0) fun v5=>ifB v5 (za (zwP 1 a1 (zwK L3 0)) fun x6=>za (zwO (atD x6 0)) fun v7=>yL (zL (zgF O v7 a1 L3 a2 a3 a) [I6 0,zwK L3 1,zwK L3 2] []) (fun i22 L8 _=>bif Nat.beq i22 2 then (za (zwJ .add (zwK L3 0) (I6 1)) fun v23=>some (.normal,[v23,zwK L8 0,zwK L8 1],[])) else(bif Nat.beq i22 1 then (za (zwJ .add (zwK L3 0) (I6 1)) fun v24=>some (.normal,[v24,zwK L8 0,zwK L8 1],[])) else(some (.exit i22,[zwK L8 0,zwK L8 1],[])))) (fun L8 _=>some (.ret,[zwK L8 0,zwK L8 1,zwK L8 2],[]))) (some (.exit 0,[zwK L3 1,zwK L3 2],[]))
def P46(O:Orc)(_a _b c _d a1 a2 a3:DV):Option DA:=za (zwO a1) fun v0=>yL (zL (zld O v0 a1 a2 a3 c) [I6 0,I6 0,I6 0] []) (fun i25 _ _=>bif Nat.beq i25 0 then (some (.tup [.agg [I6 0,I6 0],.one (.bool true)])) else(none)) (fun L1 _=>some (.tup [.agg [zwK L1 1,zwK L1 2],.one (zwK L1 0)]))
theorem p46(O:Orc)(a b c d a1 a2 a3:DV):pF O zAT 46 [SA [a,b,c,d],S1 a1,S1 a2,S1 a3]=P46 O a b c d a1 a2 a3:=by kernel_rfl
def zAS:Nat→Option LA:=fun i=>match i with|0=>some ⟨[.slot 13],[],[],[],[],[],[.slot 4],[],[]⟩|_=>none
def zoe(v3 a0 a1:DV)(L6:List DV)(_:List OC):Option PX:=za (zwJ .lss (zwK L6 0) v3) fun v8=>ifB v8 (za (zwP 2 a0 (zwK L6 0)) fun x9=>za (zwP 2 a1 (zwK L6 0)) fun x10=>za (zxx [1,1] [atD x9 0,atD x9 1] [atD x10 0,atD x10 1]) fun q11=>ifB (.bool (!q11)) (some (.ret,[.bool false],[])) (za (zwJ .add (zwK L6 0) (I6 1)) fun v12=>some (.normal,[v12],[]))) (some (.exit 0,[],[]))
def P47(_O:Orc)(a0 a1:DV):Option DA:=za (zwO a0) fun v0=>za (zwO a1) fun v1=>za (zwJ .neq v0 v1) fun v2=>ifB v2 (some (S1 (.bool false))) (za (zwO a0) fun v3=>yL (zL (zoe v3 a0 a1) [I6 0] []) (fun i13 _ _=>bif Nat.beq i13 0 then (some (S1 (.bool true))) else(none)) (fun L4 _=>some (S1 (zwK L4 0))))
theorem p47(O:Orc)(a0 a1:DV):pF O zAS 47 [S1 a0,S1 a1]=P47 O a0 a1:=by kernel_rfl
def P50(O:Orc)(a0 a1:DV):Option DA:=b1s (O 51 [S1 a0,S1 (.fn 52 [[a1]])]) fun v0=>za (zxd v0) fun v1=>some (S1 v1)
theorem p50(O:Orc)(a0 a1:DV):pF O an0 50 [S1 a0,S1 a1]=P50 O a0 a1:=by kernel_rfl
def P51(O:Orc)(a0 a1:DV):Option DA:=b1 (O 80 [S1 a0,S1 a1]) fun v0=>za (zwJ .geq v0 (I6 0)) fun v1=>some (S1 v1)
theorem p51(O:Orc)(a0 a1:DV):pF O an0 51 [S1 a0,S1 a1]=P51 O a0 a1:=by kernel_rfl
def P52(O:Orc)(a b c:DV):Option DA:=b1 (O 53 [.s (.one c),SA [a,b]]) fun v0=>za (zxd v0) fun v1=>some (S1 v1)
theorem p52(O:Orc)(a b c:DV):pF O an0 52 [SA [a,b],S1 (.fp [c] 0)]=P52 O a b c:=by kernel_rfl
def P53(O:Orc)(a0 a b:DV):Option DA:=b1 (O 81 [S1 a0,SA [a,b]]) fun v0=>za (zwJ .geq v0 (I6 0)) fun v1=>some (S1 v1)
theorem p53(O:Orc)(a0 a b:DV):pF O an0 53 [S1 a0,SA [a,b]]=P53 O a0 a b:=by kernel_rfl
def zAO:Nat→Option LA:=fun i=>match i with|0=>some ⟨[.slot 17],[(.slot 7,2)],[],[],[],[(.slot 7,2)],[],[],[]⟩|_=>none
def zu4:Nat→List PA→Nat→Nat→Option LA:=fun h _ n i=>match h,n,i with|75,2,0=>some ⟨[.slot 3],[(.slot 0,2)],[],[],[],[(.slot 0,2)],[.slot 2],[],[]⟩|75,2,1=>some ⟨[.slot 5,.slot 3],[],[],[(2,2)],[.slot 3],[],[],[],[]⟩|_,_,_=>none
def zgD(p25:Nat×Nat)(L28:List DV)(M29:List OC):Option PX:=za (zwJ .lss (zwK L28 0) (.int .i64 (.ofNat p25.2))) fun v30=>ifB v30 (za (ul p25.2 (zwK L28 0)) fun n31=>za (zw7 (zwL M29 0) (p25.1+n31)) fun x32=>za (zwJ .sub (zwK L28 0) (I6 1)) fun v33=>za (ul p25.2 v33) fun n34=>za (zw7 (zwL M29 0) (p25.1+n34)) fun x35=>za (zxx [1,1] [atD x32 0,atD x32 1] [atD x35 0,atD x35 1]) fun q36=>ifB (.bool (!q36)) (za (ul p25.2 (zwK L28 0)) fun n37=>za (zw7 (zwL M29 0) (p25.1+n37)) fun x38=>za (xA (zwL M29 0) (zwK L28 1)) fun n39=>za (zyT 2 (zwL M29 0) n39 0 [atD x38 0,atD x38 1]) fun w40=>za (zwJ .add (zwK L28 1) (I6 1)) fun v41=>za (zwJ .add (zwK L28 0) (I6 1)) fun v42=>some (.normal,[v42,v41],[w40])) (za (zwJ .add (zwK L28 0) (I6 1)) fun v43=>some (.normal,[v43,zwK L28 1],[zwL M29 0]))) (some (.exit 2,[zwK L28 1],[zwL M29 0]))
def kR(L16:List DV)(M17:List OC):Option PX:=za (zwJ .lss (zwK L16 0) (I6 (Int.ofNat (zwW (zwL M17 0))))) fun v18=>ifB v18 (za (xA (zwL M17 0) (zwK L16 0)) fun n19=>za (zw7 (zwL M17 0) n19) fun x20=>za (zwJ .sub (zwK L16 0) (I6 1)) fun v21=>za (xA (zwL M17 0) v21) fun n22=>za (zw7 (zwL M17 0) n22) fun x23=>za (zxx [1,1] [atD x20 0,atD x20 1] [atD x23 0,atD x23 1]) fun q24=>ifB (.bool q24) (za (vwB (some (zwK L16 0)) none (zwW (zwL M17 0))) fun p25=>yL (zL (zgD p25) [I6 1,zwK L16 0] [zwL M17 0]) (fun i44 L26 M27=>bif Nat.beq i44 2 then (za (vwB (some (zwK L26 0)) none (zwW (zwL M27 0))) fun p45=>za (vwB none (some (zwK L26 0)) (zwW (zyk (zwL M27 0) p45.1 p45.2 [I6 0,I6 0]))) fun p46=>some (.ret,[zhg 2 p46.1 p46.2 (mkL 2 (zyk (zwL M27 0) p45.1 p45.2 [I6 0,I6 0]))],[])) else(bif Nat.beq i44 1 then (za (zwJ .add (zwK L26 0) (I6 1)) fun v47=>some (.normal,[v47],[zwL M27 0])) else(some (.exit i44,[],[zwL M27 0])))) (fun _ _=>none)) (za (zwJ .add (zwK L16 0) (I6 1)) fun v48=>some (.normal,[v48],[zwL M17 0]))) (some (.exit 0,[],[zwL M17 0]))
def zoa(O:Orc)(v1:DV)(g0:List DV)(a0 a2:DV)(L4:List DV)(M5:List OC):Option PX:=za (zwJ .lss (zwK L4 0) v1) fun v6=>ifB v6 (za (zwP 2 (atD g0 2) (zwK L4 0)) fun x7=>bT [some 2,none] (O 95 [S1 a0,SA [atD x7 0,atD x7 1],S1 a2]) fun t8=>ifB (dsO (zwV t8 1)) (gd (fits 16 (zwW (zwL M5 0)+1)) (za (zwJ .add (zwK L4 0) (I6 1)) fun v9=>some (.normal,[v9],[some (zQ (zwL M5 0)++[[atD (dsA (zwV t8 0)) 0,atD (dsA (zwV t8 0)) 1]])]))) (za (zwJ .add (zwK L4 0) (I6 1)) fun v10=>some (.normal,[v10],[zwL M5 0]))) (some (.exit 0,[],[zwL M5 0]))
def P71(O:Orc)(a0 a b c d a2:DV):Option DA:=bA 3 (O 94 [SA [a,b,c,d],S1 a2]) fun g0=>za (zwO (atD g0 2)) fun v1=>yL (zL (zoa O v1 g0 a0 a2) [I6 0] [none]) (fun i11 _ M3=>bif Nat.beq i11 0 then (za (zyx 2 (zwL M3 0)) fun w12=>za (zwJ .lss (I6 (Int.ofNat (zwW w12))) (I6 2)) fun v13=>ifB v13 (some (S1 (mkL 2 w12))) (yL (zL kR [I6 1] [w12]) (fun i49 _ M15=>bif Nat.beq i49 0 then (some (S1 (mkL 2 (zwL M15 0)))) else(none)) (fun L14 _=>some (S1 (zwK L14 0))))) else(none)) (fun _ _=>none)
theorem p71(O:Orc)(a0 a b c d a2:DV):zyb prog O zw5 (inl prog O zw5 zu4 redI 4) zAO 71 [S1 a0,SA [a,b,c,d],S1 a2]=P71 O a0 a b c d a2:=by kernel_rfl
def zAN:Nat→Option LA:=fun i=>match i with|0=>some ⟨[.slot 9],[(.cell 3 0,2)],[(3,1)],[],[],[(.cell 3 0,2)],[.cell 3 0],[],[]⟩|_=>none
def zu3:Nat→List PA→Nat→Nat→Option LA:=fun h _ n i=>match h,n,i with|97,4,0=>some ⟨[.slot 14],[(.cell 3 0,2)],[(3,1)],[],[],[(.cell 3 0,2)],[.cell 3 0],[],[]⟩|97,7,0=>some ⟨[.slot 14],[(.cell 3 0,2)],[(3,1)],[],[],[(.cell 3 0,2)],[.cell 3 0],[],[]⟩|_,_,_=>none
def zgB(O:Orc)(v31 a b:DV)(x30:List DV)(c:DV)(L34:List DV)(M35:List OC):Option PX:=za (zwJ .lss (zwK L34 0) v31) fun v36=>ifB v36 (za (zwP 5 a (zwK L34 0)) fun x37=>za (wy false b (zwK L34 0)) fun v38=>za (zwJ .and v38 (U64 1)) fun v39=>za (zwJ .eql v39 (U64 0)) fun v40=>ifB v40 (za (zwJ .add (zwK L34 0) (I6 1)) fun v41=>some (.normal,[v41],[zwL M35 0])) (za (zwJ .neq (atD x37 1) (atD x30 0)) fun v42=>ifB v42 (za (zwJ .add (zwK L34 0) (I6 1)) fun v43=>some (.normal,[v43],[zwL M35 0])) (za (zxd (atD x37 4)) fun v44=>ifB v44 (za (zwJ .add (zwK L34 0) (I6 1)) fun v45=>some (.normal,[v45],[zwL M35 0])) (za (zwJ .add (atD x30 1) (atD x37 3)) fun v46=>za (zwP 5 c (atD x37 2)) fun x47=>za (zwJ .geq v46 (atD x47 2)) fun v48=>ifB v48 (za (zwJ .leq v46 (atD x47 3)) fun v49=>ifB v49 (b1s (O 98 [S1 (mkL 2 (zwL M35 0)),SA [atD x37 2,v46]]) fun v50=>za (zxd v50) fun v51=>ifB v51 (gd (fits 16 (zwW (zwL M35 0)+1)) (za (zwJ .add (zwK L34 0) (I6 1)) fun v52=>some (.normal,[v52],[some (zQ (zwL M35 0)++[[atD x37 2,v46]])]))) (za (zwJ .add (zwK L34 0) (I6 1)) fun v53=>some (.normal,[v53],[zwL M35 0]))) (za (zwJ .add (zwK L34 0) (I6 1)) fun v54=>some (.normal,[v54],[zwL M35 0]))) (za (zwJ .add (zwK L34 0) (I6 1)) fun v55=>some (.normal,[v55],[zwL M35 0])))))) (some (.exit 0,[],[zwL M35 0]))
def zgC(O:Orc)(a b c:DV)(L26:List DV)(M27:List OC):Option PX:=za (zwJ .lss (zwK L26 0) (I6 (Int.ofNat (zwW (zwL M27 0))))) fun v28=>ifB v28 (za (xA (zwL M27 0) (zwK L26 0)) fun n29=>za (zw7 (zwL M27 0) n29) fun x30=>za (zwO a) fun v31=>yL (zL (zgB O v31 a b x30 c) [I6 0] [zwL M27 0]) (fun i56 _ M33=>bif Nat.beq i56 0 then (za (zwJ .add (zwK L26 0) (I6 1)) fun v57=>some (.normal,[v57],[zwL M33 0])) else(none)) (fun _ _=>none)) (some (.exit 0,[],[zwL M27 0]))
def zn9(O:Orc)(v0 a b c d f:DV)(L3:List DV)(M4:List OC):Option PX:=za (zwJ .lss (zwK L3 0) v0) fun v5=>ifB v5 (za (zwP 5 a (zwK L3 0)) fun x6=>za (wy false b (zwK L3 0)) fun v7=>za (zwJ .and v7 (U64 1)) fun v8=>za (zwJ .eql v8 (U64 0)) fun v9=>ifB v9 (za (zwJ .add (zwK L3 0) (I6 1)) fun v10=>some (.normal,[v10],[zwL M4 0])) (za (zwJ .neq (atD x6 1) c) fun v11=>ifB v11 (za (zwJ .add (zwK L3 0) (I6 1)) fun v12=>some (.normal,[v12],[zwL M4 0])) (za (zwJ .add d (atD x6 3)) fun v13=>za (zwP 5 f (atD x6 2)) fun x14=>za (zwJ .geq v13 (atD x14 2)) fun v15=>ifB v15 (za (zwJ .leq v13 (atD x14 3)) fun v16=>ifB v16 (b1s (O 98 [S1 (mkL 2 (zwL M4 0)),SA [atD x6 2,v13]]) fun v17=>za (zxd v17) fun v18=>ifB v18 (gd (fits 16 (zwW (zwL M4 0)+1)) (za (zwJ .add (zwK L3 0) (I6 1)) fun v19=>some (.normal,[v19],[some (zQ (zwL M4 0)++[[atD x6 2,v13]])]))) (za (zwJ .add (zwK L3 0) (I6 1)) fun v20=>some (.normal,[v20],[zwL M4 0]))) (za (zwJ .add (zwK L3 0) (I6 1)) fun v21=>some (.normal,[v21],[zwL M4 0]))) (za (zwJ .add (zwK L3 0) (I6 1)) fun v22=>some (.normal,[v22],[zwL M4 0]))))) (some (.exit 0,[],[zwL M4 0]))
def P72(O:Orc)(_a _b c d _f h j m r:DV):Option DA:=za (zwO d) fun v0=>yL (zL (zn9 O v0 d h m r c) [I6 0] [none]) (fun i23 _ M2=>bif Nat.beq i23 0 then (yL (zL (zgC O d h c) [I6 0] [zwL M2 0]) (fun i58 _ M25=>bif Nat.beq i58 0 then (za (wy false j m) fun v59=>za (zwJ .and v59 (U64 1)) fun v60=>za (zwJ .eql v60 (U64 0)) fun v61=>ifB v61 (b1s (O 98 [S1 (mkL 2 (zwL M25 0)),SA [m,r]]) fun v62=>za (zxd v62) fun v63=>ifB v63 (gd (fits 16 (zwW (zwL M25 0)+1)) (some (.s (.one (.lst 2 (zQ (zwL M25 0)++[[m,r]])))))) (some (S1 (mkL 2 (zwL M25 0))))) (some (S1 (mkL 2 (zwL M25 0))))) else(none)) (fun _ _=>none)) else(none)) (fun _ _=>none)
theorem p72(O:Orc)(a b c d f h j m r:DV):zyb prog O zw5 (inl prog O zw5 zu3 redI 4) zAN 72 [SA [a,b,c,d],SA [f,h,j],SA [m,r]]=P72 O a b c d f h j m r:=by kernel_rfl
def zAM:Nat→Option LA:=fun i=>match i with|0=>some ⟨[.slot 8],[],[],[],[],[],[.slot 4],[],[]⟩|_=>none
def zn8(O:Orc)(v0 a0 a1:DV)(L3:List DV)(_:List OC):Option PX:=za (zwJ .lss (zwK L3 0) v0) fun v5=>ifB v5 (za (zwP 2 a0 (zwK L3 0)) fun x6=>b1 (zxi O a1 [SA [atD x6 0,atD x6 1]]) fun v7=>ifB v7 (some (.ret,[zwK L3 0],[])) (za (zwJ .add (zwK L3 0) (I6 1)) fun v8=>some (.normal,[v8],[]))) (some (.exit 0,[],[]))
def P80(O:Orc)(a0 a1:DV):Option DA:=za (zwO a0) fun v0=>yL (zL (zn8 O v0 a0 a1) [I6 0] []) (fun i9 _ _=>bif Nat.beq i9 0 then (some (S1 (I6 (-1)))) else(none)) (fun L1 _=>some (S1 (zwK L1 0)))
theorem p80(O:Orc)(a0 a1:DV):pF O zAM 80 [S1 a0,S1 a1]=P80 O a0 a1:=by kernel_rfl
def zAL:Nat→Option LA:=fun i=>match i with|0=>some ⟨[.slot 8],[],[],[],[],[],[.slot 4],[],[]⟩|_=>none
def zlc(v0 a0 a b:DV)(L3:List DV)(_:List OC):Option PX:=za (zwJ .lss (zwK L3 0) v0) fun v5=>ifB v5 (za (zwP 2 a0 (zwK L3 0)) fun x6=>za (zxx [1,1] [a,b] [atD x6 0,atD x6 1]) fun q7=>ifB (.bool q7) (some (.ret,[zwK L3 0],[])) (za (zwJ .add (zwK L3 0) (I6 1)) fun v8=>some (.normal,[v8],[]))) (some (.exit 0,[],[]))
def P81(_O:Orc)(a0 a b:DV):Option DA:=za (zwO a0) fun v0=>yL (zL (zlc v0 a0 a b) [I6 0] []) (fun i9 _ _=>bif Nat.beq i9 0 then (some (S1 (I6 (-1)))) else(none)) (fun L1 _=>some (S1 (zwK L1 0)))
theorem p81(O:Orc)(a0 a b:DV):pF O zAL 81 [S1 a0,SA [a,b]]=P81 O a0 a b:=by kernel_rfl
def P94(O:Orc)(_a _b _c d a1:DV):Option DA:=b1s (O 118 [S1 d,S1 (.fn 119 [[a1]])]) fun v0=>za (zwJ .lss v0 (I6 0)) fun v1=>ifB v1 (some (SA [I6 0,I6 0,.nils])) (za (zwP 3 d v0) fun x2=>some (SA [atD x2 0,atD x2 1,atD x2 2]))
theorem p94(O:Orc)(a b c d a1:DV):pF O an0 94 [SA [a,b,c,d],S1 a1]=P94 O a b c d a1:=by kernel_rfl
def P95(_O:Orc)(a0 a b a2:DV):Option DA:=za (zwJ .lss a (I6 0)) fun v0=>ifB v0 (some (.tup [.agg [I6 0,I6 0],.one (.bool false)])) (za (zwO a0) fun v1=>za (zwJ .geq a v1) fun v2=>ifB v2 (some (.tup [.agg [I6 0,I6 0],.one (.bool false)])) (za (zwJ .add a2 b) fun v3=>za (zwP 6 a0 a) fun x4=>za (zwJ .sub v3 (atD x4 4)) fun v5=>za (zwJ .geq v5 (I6 0)) fun v6=>ifB v6 (za (zwP 6 a0 a) fun x7=>za (zwO (atD x7 5)) fun v8=>za (zwJ .lss v5 v8) fun v9=>some (.tup [.agg [a,v5],.one v9])) (some (.tup [.agg [a,v5],.one (.bool false)]))))
theorem p95(O:Orc)(a0 a b a2:DV):pF O an0 95 [S1 a0,SA [a,b],S1 a2]=P95 O a0 a b a2:=by kernel_rfl
def P98(O:Orc)(a0 a b:DV):Option DA:=b1 (O 121 [S1 a0,SA [a,b]]) fun v0=>za (zwJ .geq v0 (I6 0)) fun v1=>some (S1 v1)
theorem p98(O:Orc)(a0 a b:DV):pF O an0 98 [S1 a0,SA [a,b]]=P98 O a0 a b:=by kernel_rfl
def zva:Nat→Option LA:=fun i=>match i with|0=>some ⟨[.slot 8],[],[],[],[],[],[.slot 4],[],[]⟩|_=>none
def zgS(O:Orc)(v0 a0 a1:DV)(L3:List DV)(_:List OC):Option PX:=za (zwJ .lss (zwK L3 0) v0) fun v5=>ifB v5 (za (zwP 3 a0 (zwK L3 0)) fun x6=>b1 (zxi O a1 [SA [atD x6 0,atD x6 1,atD x6 2]]) fun v7=>ifB v7 (some (.ret,[zwK L3 0],[])) (za (zwJ .add (zwK L3 0) (I6 1)) fun v8=>some (.normal,[v8],[]))) (some (.exit 0,[],[]))
def zz1(O:Orc)(a0 a1:DV):Option DA:=za (zwO a0) fun v0=>yL (zL (zgS O v0 a0 a1) [I6 0] []) (fun i9 _ _=>bif Nat.beq i9 0 then (some (S1 (I6 (-1)))) else(none)) (fun L1 _=>some (S1 (zwK L1 0)))
theorem zBi(O:Orc)(a0 a1:DV):pF O zva 118 [S1 a0,S1 a1]=zz1 O a0 a1:=by kernel_rfl
def zz0(_O:Orc)(a b _c d:DV):Option DA:=za (zwJ .leq a d) fun v0=>ifB v0 (za (zwJ .leq d b) fun v1=>some (S1 v1)) (some (S1 (.bool false)))
theorem zBh(O:Orc)(a b c d:DV):pF O an0 119 [SA [a,b,c],S1 (.fp [d] 0)]=zz0 O a b c d:=by kernel_rfl
def zu9:Nat→Option LA:=fun i=>match i with|0=>some ⟨[.slot 8],[],[],[],[],[],[.slot 4],[],[]⟩|_=>none
def zqX(v0 a0 a b:DV)(L3:List DV)(_:List OC):Option PX:=za (zwJ .lss (zwK L3 0) v0) fun v5=>ifB v5 (za (zwP 2 a0 (zwK L3 0)) fun x6=>za (zxx [1,1] [a,b] [atD x6 0,atD x6 1]) fun q7=>ifB (.bool q7) (some (.ret,[zwK L3 0],[])) (za (zwJ .add (zwK L3 0) (I6 1)) fun v8=>some (.normal,[v8],[]))) (some (.exit 0,[],[]))
def zzY(_O:Orc)(a0 a b:DV):Option DA:=za (zwO a0) fun v0=>yL (zL (zqX v0 a0 a b) [I6 0] []) (fun i9 _ _=>bif Nat.beq i9 0 then (some (S1 (I6 (-1)))) else(none)) (fun L1 _=>some (S1 (zwK L1 0)))
theorem zBf(O:Orc)(a0 a b:DV):pF O zu9 121 [S1 a0,SA [a,b]]=zzY O a0 a b:=by kernel_rfl
def zAU:Nat→Option LA:=fun i=>match i with|0=>some ⟨[.slot 26],[],[],[(2,1)],[],[],[],[],[]⟩|1=>some ⟨[.slot 8],[(.lnk 5,1)],[],[],[],[(.lnk 5,1)],[.lnk 5],[],[1001006002]⟩|2=>some ⟨[.slot 44],[(.slot 9,2)],[],[],[],[(.slot 9,2)],[],[],[]⟩|3=>some ⟨[.slot 84],[],[],[(3,1)],[],[],[],[],[]⟩|4=>some ⟨[.slot 15],[(.lnk 6,1)],[],[],[],[(.lnk 6,1)],[.lnk 6],[],[1001013003]⟩|5=>some ⟨[.slot 106],[(.slot 16,2)],[],[],[],[(.slot 16,2)],[],[],[]⟩|_=>none
def zu5:Nat→List PA→Nat→Nat→Option LA:=fun h _ n i=>match h,n,i with|1000075,1,0=>some ⟨[.slot 3],[(.slot 0,2)],[],[],[],[(.slot 0,2)],[.slot 2],[],[]⟩|1000075,1,1=>some ⟨[.slot 5,.slot 3],[],[],[(1,2)],[.slot 3],[],[],[],[]⟩|_,_,_=>none
def zvh(p89:Nat×Nat)(L92:List DV)(M93:List OC):Option PX:=za (zwJ .lss (zwK L92 0) (.int .i64 (.ofNat p89.2))) fun v94=>ifB v94 (za (ul p89.2 (zwK L92 0)) fun n95=>za (zw7 (zwL M93 0) (p89.1+n95)) fun x96=>za (zwJ .sub (zwK L92 0) (I6 1)) fun v97=>za (ul p89.2 v97) fun n98=>za (zw7 (zwL M93 0) (p89.1+n98)) fun x99=>za (zxx [1,1] [atD x96 0,atD x96 1] [atD x99 0,atD x99 1]) fun q100=>ifB (.bool (!q100)) (za (ul p89.2 (zwK L92 0)) fun n101=>za (zw7 (zwL M93 0) (p89.1+n101)) fun x102=>za (xA (zwL M93 0) (zwK L92 1)) fun n103=>za (zyT 2 (zwL M93 0) n103 0 [atD x102 0,atD x102 1]) fun w104=>za (zwJ .add (zwK L92 1) (I6 1)) fun v105=>za (zwJ .add (zwK L92 0) (I6 1)) fun v106=>some (.normal,[v106,v105],[w104])) (za (zwJ .add (zwK L92 0) (I6 1)) fun v107=>some (.normal,[v107,zwK L92 1],[zwL M93 0]))) (some (.exit 2,[zwK L92 1],[zwL M93 0]))
def zqW(L80:List DV)(M81:List OC):Option PX:=za (zwJ .lss (zwK L80 0) (I6 (Int.ofNat (zwW (zwL M81 0))))) fun v82=>ifB v82 (za (xA (zwL M81 0) (zwK L80 0)) fun n83=>za (zw7 (zwL M81 0) n83) fun x84=>za (zwJ .sub (zwK L80 0) (I6 1)) fun v85=>za (xA (zwL M81 0) v85) fun n86=>za (zw7 (zwL M81 0) n86) fun x87=>za (zxx [1,1] [atD x84 0,atD x84 1] [atD x87 0,atD x87 1]) fun q88=>ifB (.bool q88) (za (vwB (some (zwK L80 0)) none (zwW (zwL M81 0))) fun p89=>yL (zL (zvh p89) [I6 1,zwK L80 0] [zwL M81 0]) (fun i108 L90 M91=>bif Nat.beq i108 2 then (za (vwB (some (zwK L90 0)) none (zwW (zwL M91 0))) fun zyI=>za (vwB none (some (zwK L90 0)) (zwW (zyk (zwL M91 0) zyI.1 zyI.2 [I6 0,I6 0]))) fun zzs=>some (.ret,[zhg 2 zzs.1 zzs.2 (mkL 2 (zyk (zwL M91 0) zyI.1 zyI.2 [I6 0,I6 0]))],[])) else(bif Nat.beq i108 1 then (za (zwJ .add (zwK L90 0) (I6 1)) fun v111=>some (.normal,[v111],[zwL M91 0])) else(some (.exit i108,[],[zwL M91 0])))) (fun _ _=>none)) (za (zwJ .add (zwK L80 0) (I6 1)) fun v112=>some (.normal,[v112],[zwL M81 0]))) (some (.exit 0,[],[zwL M81 0]))
def zgG(v58 v57:DV)(M4:List OC)(a:DV)(L61:List DV)(M62:List OC):Option PX:=za (zwJ .lss (zwK L61 0) v58) fun v63=>ifB v63 (za (zwP 2 v57 (zwK L61 0)) fun x64=>za (xA (zwL M4 0) (atD x64 0)) fun n65=>za (zw7 (zwL M4 0) n65) fun x66=>za (zwP 5 a (atD x64 0)) fun x67=>za (zwJ .sub (atD x64 1) (atD x67 2)) fun v68=>za (zwP 1 (atD x66 0) v68) fun x69=>za (jn 2 (atD x69 0)) fun e70=>gd (fits 16 (zwW (zwL M62 0)+(e70:List (List DV)).length)) (za (zwJ .add (zwK L61 0) (I6 1)) fun v71=>some (.normal,[v71],[zyf (zwL M62 0) e70]))) (some (.exit 10,[],[zwL M62 0]))
def zgH(O:Orc)(x49:List DV)(a b c d f h j:DV)(L46:List DV)(M4 M47:List OC)(n52:Nat)(L54:List DV)(M55:List OC):Option PX:=za (zwJ .leq (zwK L54 0) (atD x49 3)) fun v56=>ifB v56 (b1 (O 72 [SA [a,b,c,d],SA [f,h,j],SA [zwK L46 0,zwK L54 0]]) fun v57=>za (zwO v57) fun v58=>yL (zL (zgG v58 v57 M4 c) [I6 0] [none]) (fun i72 _ M60=>bif Nat.beq i72 10 then (za (zyx 2 (zwL M60 0)) fun w73=>za (xA (zwL M47 0) (zwK L46 0)) fun n74=>gd (Nat.beq n74 n52) (za (zwJ .lss (I6 (Int.ofNat (zwW w73))) (I6 2)) fun v75=>ifB v75 (gd (fits 24 (zwW (zwL M55 0)+1)) (za (xA (zwL M47 0) (zwK L46 0)) fun n76=>gd (Nat.beq n76 n52) (za (zwJ .add (zwK L54 0) (I6 1)) fun v77=>some (.normal,[v77],[some (zQ (zwL M55 0)++[[mkL 2 w73]])])))) (yL (zL zqW [I6 1] [w73]) (fun i113 _ M79=>bif Nat.beq i113 0 then (gd (fits 24 (zwW (zwL M55 0)+1)) (za (xA (zwL M47 0) (zwK L46 0)) fun n114=>gd (Nat.beq n114 n52) (za (zwJ .add (zwK L54 0) (I6 1)) fun v115=>some (.normal,[v115],[some (zQ (zwL M55 0)++[[mkL 2 (zwL M79 0)]])])))) else(none)) (fun L78 _=>gd (fits 24 (zwW (zwL M55 0)+1)) (za (xA (zwL M47 0) (zwK L46 0)) fun n116=>gd (Nat.beq n116 n52) (za (zwJ .add (zwK L54 0) (I6 1)) fun v117=>some (.normal,[v117],[some (zQ (zwL M55 0)++[[zwK L78 0]])]))))))) else(bif Nat.beq i72 9 then (za (zwJ .add (zwK L54 0) (I6 1)) fun v118=>some (.normal,[v118],[zwL M55 0])) else(some (.exit i72,[],[zwL M55 0])))) (fun _ _=>none)) (some (.exit 8,[],[zwL M55 0]))
def zgI(O:Orc)(v43 a b c d f h j:DV)(M4:List OC)(L46:List DV)(M47:List OC):Option PX:=za (zwJ .lss (zwK L46 0) v43) fun v48=>ifB v48 (za (zwP 5 a (zwK L46 0)) fun x49=>za (xA (zwL M47 0) (zwK L46 0)) fun n52=>za (zw7 (zwL M47 0) n52) fun x53=>gdN (atD x53 0) (yL (zL (zgH O x49 b c a d f h j L46 M4 M47 n52) [atD x49 2] [none]) (fun i119 _ M51=>za (zyU (zwL M47 0) n52 (mkL 1 (zwL M51 0))) fun w120=>bif Nat.beq i119 8 then (za (zwJ .add (zwK L46 0) (I6 1)) fun v121=>some (.normal,[v121],[w120])) else(bif Nat.beq i119 7 then (za (zwJ .add (zwK L46 0) (I6 1)) fun v122=>some (.normal,[v122],[w120])) else(some (.exit i119,[],[w120])))) (fun _ _=>none))) (some (.exit 6,[],[zwL M47 0]))
def zcQ(O:Orc)(v16:DV)(x8:List DV)(a:DV)(L5:List DV)(b:DV)(L13:List DV)(L19:List DV)(M20:List OC):Option PX:=za (zwJ .lss (zwK L19 0) v16) fun v21=>ifB v21 (za (zwP 4 (atD x8 4) (zwK L19 0)) fun x22=>za (zwP 1 a (zwK L5 0)) fun x23=>za (wy false (atD x23 0) (zwK L19 0)) fun v24=>za (zwJ .and v24 (U64 1)) fun v25=>za (zwJ .eql v25 (U64 1)) fun v26=>ifB v26 (b1 (O 71 [S1 b,SA [atD x22 0,atD x22 1,atD x22 2,atD x22 3],S1 (zwK L13 0)]) fun v27=>za (jn 2 v27) fun e28=>gd (fits 16 (zwW (zwL M20 0)+(e28:List (List DV)).length)) (za (zwJ .add (zwK L19 0) (I6 1)) fun v29=>some (.normal,[v29],[zyf (zwL M20 0) e28]))) (za (zwJ .add (zwK L19 0) (I6 1)) fun v30=>some (.normal,[v30],[zwL M20 0]))) (some (.exit 4,[],[zwL M20 0]))
def zgJ(O:Orc)(x8:List DV)(a:DV)(L5:List DV)(b:DV)(M6:List OC)(n11:Nat)(L13:List DV)(M14:List OC):Option PX:=za (zwJ .leq (zwK L13 0) (atD x8 3)) fun v15=>ifB v15 (za (zwO (atD x8 4)) fun v16=>yL (zL (zcQ O v16 x8 a L5 b L13) [I6 0] [none]) (fun i31 _ M18=>bif Nat.beq i31 4 then (za (xA (zwL M6 0) (zwK L5 0)) fun n32=>gd (Nat.beq n32 n11) (gd (fits 24 (zwW (zwL M14 0)+1)) (za (xA (zwL M6 0) (zwK L5 0)) fun n33=>gd (Nat.beq n33 n11) (za (zwJ .add (zwK L13 0) (I6 1)) fun v34=>some (.normal,[v34],[some (zQ (zwL M14 0)++[[mkL 2 (zwL M18 0)]])]))))) else(bif Nat.beq i31 3 then (za (zwJ .add (zwK L13 0) (I6 1)) fun v35=>some (.normal,[v35],[zwL M14 0])) else(some (.exit i31,[],[zwL M14 0])))) (fun _ _=>none)) (some (.exit 2,[],[zwL M14 0]))
def zof(O:Orc)(v2 a b c:DV)(L5:List DV)(M6:List OC):Option PX:=za (zwJ .lss (zwK L5 0) v2) fun v7=>ifB v7 (za (zwP 5 a (zwK L5 0)) fun x8=>za (xA (zwL M6 0) (zwK L5 0)) fun n11=>za (zw7 (zwL M6 0) n11) fun x12=>gdN (atD x12 0) (yL (zL (zgJ O x8 b L5 c M6 n11) [atD x8 2] [none]) (fun i36 _ M10=>za (zyU (zwL M6 0) n11 (mkL 1 (zwL M10 0))) fun w37=>bif Nat.beq i36 2 then (za (zwJ .add (zwK L5 0) (I6 1)) fun v38=>some (.normal,[v38],[w37])) else(bif Nat.beq i36 1 then (za (zwJ .add (zwK L5 0) (I6 1)) fun v39=>some (.normal,[v39],[w37])) else(some (.exit i36,[],[w37])))) (fun _ _=>none))) (some (.exit 0,[],[zwL M6 0]))
def P39(O:Orc)(a b c d f h j:DV):Option DA:=za (zwO c) fun v0=>za (mkN 24 v0 v0) fun n1=>za (zwO c) fun v2=>yL (zL (zof O v2 c f b) [I6 0] [some (List.replicate n1 [.nils])]) (fun i40 _ M4=>bif Nat.beq i40 0 then (za (zwO c) fun v41=>za (mkN 24 v41 v41) fun n42=>za (zwO c) fun v43=>yL (zL (zgI O v43 c a b d f h j M4) [I6 0] [some (List.replicate n42 [.nils])]) (fun i123 _ M45=>bif Nat.beq i123 6 then (some (S1 (mkL 1 (zwL M45 0)))) else(none)) (fun _ _=>none)) else(none)) (fun _ _=>none)
theorem p39(O:Orc)(a b c d f h j:DV):zyb prog O zw5 (inl prog O zw5 zu5 redI 4) zAU 39 [SA [a,b,c,d],SA [f,h,j]]=P39 O a b c d f h j:=by kernel_rfl
def anT(g:Nat):Nat→Option LA:=match g with
 |10=>zA3
 |11=>zA2
 |12=>zA1
 |30=>zAY
 |31=>zAX
 |36=>zAW
 |59=>zAR
 |62=>zAQ
 |63=>zAP
 |88=>zAK
 |93=>zAJ
 |110=>zvd
 |111=>zvc
 |112=>zvb
 |136=>zu8
 |138=>zu7
 |164=>zu6
 |26=>zA0
 |28=>zAZ
 |38=>zAV
 |46=>zAT
 |47=>zAS
 |71=>zAO
 |72=>zAN
 |80=>zAM
 |81=>zAL
 |118=>zva
 |121=>zu9
 |39=>zAU
 |_=>an0
def zxN(g:Nat):Nat→List PA→Nat→Nat→Option LA:=match g with
 |71=>zu4
 |72=>zu3
 |39=>zu5
 |_=>zzd
end Go.Proofs.Tryz.Kn
end
noncomputable section
namespace Go.Proofs.Tryz.Kc
open Go Go.CE Go.PE
abbrev prog:Program:=Tryz.prog
def zw5:Nat→Bool:=fun g=>match g with|_=>false
abbrev redI:Red:=zt4
def an0:Nat→Option LA:=fun _=>none
def zzd:Nat→List PA→Nat→Nat→Option LA:=fun _ _ _ _=>none
abbrev pF(O:Orc)(an:Nat→Option LA)(g:Nat)(args:List DA):Option DA:=zyb prog O zw5 (inl prog O zw5 zzd redI 1) an g args
def P74(O:Orc)(a b c d:DV):Option DA:=b1 (O 102 [S1 a,S1 c]) fun v0=>b1 (O 102 [S1 b,S1 d]) fun v1=>b1s (O 101 [S1 (.lst 1 [[v0],[v1]])]) fun v2=>some (S1 v2)
theorem p74(O:Orc)(a b c d:DV):pF O an0 74 [SA [a,b],SA [c,d]]=P74 O a b c d:=by kernel_rfl
def zzZ(O:Orc)(a b c d:DV):Option DA:=b1 (O 102 [S1 a,S1 c]) fun v0=>b1 (O 102 [S1 b,S1 d]) fun v1=>b1s (O 101 [S1 (.lst 1 [[v0],[v1]])]) fun v2=>some (S1 v2)
theorem zBg(O:Orc)(a b c d:DV):pF O an0 120 [SA [a,b],SA [c,d]]=zzZ O a b c d:=by kernel_rfl
def zve:Nat→Option LA:=fun i=>match i with|0=>some ⟨[.slot 8],[],[],[],[],[],[.slot 2],[],[]⟩|_=>none
def zcR(v0 a0:DV)(L3:List DV)(_:List OC):Option PX:=za (zwJ .lss (zwK L3 0) v0) fun v5=>ifB v5 (za (zwP 1 a0 (zwK L3 0)) fun x6=>za (zwJ .neq (atD x6 0) (I6 0)) fun v7=>ifB v7 (some (.ret,[atD x6 0],[])) (za (zwJ .add (zwK L3 0) (I6 1)) fun v8=>some (.normal,[v8],[]))) (some (.exit 0,[],[]))
def zz9(_O:Orc)(a0:DV):Option DA:=za (zwO a0) fun v0=>yL (zL (zcR v0 a0) [I6 0] []) (fun i9 _ _=>bif Nat.beq i9 0 then (some (S1 (I6 0))) else(none)) (fun L1 _=>some (S1 (zwK L1 0)))
theorem zBo(O:Orc)(a0:DV):pF O zve 101 [S1 a0]=zz9 O a0:=by kernel_rfl
def zz8(O:Orc)(a0 a1:DV):Option DA:=b1 (O 132 [S1 a0]) fun v0=>b1 (O 132 [S1 a1]) fun v1=>ifB v0 (ifB v1 (some (S1 (I6 0))) (some (S1 (I6 (-1))))) (ifB v1 (some (S1 (I6 1))) (za (zwJ .lss a0 a1) fun v2=>ifB v2 (some (S1 (I6 (-1)))) (za (zwJ .gtr a0 a1) fun v3=>ifB v3 (some (S1 (I6 1))) (some (S1 (I6 0))))))
theorem zBn(O:Orc)(a0 a1:DV):pF O an0 102 [S1 a0,S1 a1]=zz8 O a0 a1:=by kernel_rfl
def zzX(_O:Orc)(a0:DV):Option DA:=za (zwJ .neq a0 a0) fun v0=>some (S1 v0)
theorem zBe(O:Orc)(a0:DV):pF O an0 132 [S1 a0]=zzX O a0:=by kernel_rfl
def anT(g:Nat):Nat→Option LA:=match g with
 |101=>zve
 |_=>an0
def zxN(g:Nat):Nat→List PA→Nat→Nat→Option LA:=match g with
 |_=>zzd
theorem d74{sums:List CE.Sum}{B:Orc}{k:Nat}(a b c d:DV)(hB:B 74 [SA [a,b],SA [c,d]]=none)(hs:sums.all (fun s=>!Nat.beq 74 s.g)=true):deep prog sums B anT zw5 zxN redI 1 (k+1) 74 [SA [a,b],SA [c,d]]=P74 (deep prog sums B anT zw5 zxN redI 1 k) a b c d:=(uy hB hs).trans (p74 _ _ _ _ _)
theorem d120{sums:List CE.Sum}{B:Orc}{k:Nat}(a b c d:DV)(hB:B 120 [SA [a,b],SA [c,d]]=none)(hs:sums.all (fun s=>!Nat.beq 120 s.g)=true):deep prog sums B anT zw5 zxN redI 1 (k+1) 120 [SA [a,b],SA [c,d]]=zzZ (deep prog sums B anT zw5 zxN redI 1 k) a b c d:=(uy hB hs).trans (zBg _ _ _ _ _)
theorem d101{sums:List CE.Sum}{B:Orc}{k:Nat}(a0:DV)(hB:B 101 [S1 a0]=none)(hs:sums.all (fun s=>!Nat.beq 101 s.g)=true):deep prog sums B anT zw5 zxN redI 1 (k+1) 101 [S1 a0]=zz9 (deep prog sums B anT zw5 zxN redI 1 k) a0:=(uy hB hs).trans (zBo _ _)
theorem d102{sums:List CE.Sum}{B:Orc}{k:Nat}(a0 a1:DV)(hB:B 102 [S1 a0,S1 a1]=none)(hs:sums.all (fun s=>!Nat.beq 102 s.g)=true):deep prog sums B anT zw5 zxN redI 1 (k+1) 102 [S1 a0,S1 a1]=zz8 (deep prog sums B anT zw5 zxN redI 1 k) a0 a1:=(uy hB hs).trans (zBn _ _ _)
theorem d132{sums:List CE.Sum}{B:Orc}{k:Nat}(a0:DV)(hB:B 132 [S1 a0]=none)(hs:sums.all (fun s=>!Nat.beq 132 s.g)=true):deep prog sums B anT zw5 zxN redI 1 (k+1) 132 [S1 a0]=zzX (deep prog sums B anT zw5 zxN redI 1 k) a0:=(uy hB hs).trans (zBe _ _)
end Go.Proofs.Tryz.Kc
end
section
namespace Go.Proofs.Tryz.Kn
open Go Go.CE Go.PE
theorem ztJ{sums:List CE.Sum}:zqa zw5 redI (fun n=>z6 (zX prog) (cFs (xm prog)) sums redI.s n):=by
 intro N g g' l l' vs e;cases e
end Go.Proofs.Tryz.Kn
end
section
namespace Go.Proofs.Tryz.Kn
open Go Go.Shelf
def layR:Go.Shelf.Ren:=⟨fun|6=>73|15=>100|14=>99|28=>130|29=>131|20=>122|21=>123|22=>124|23=>125|24=>126|25=>127|26=>128|27=>129|46=>151|47=>152|48=>153|49=>154|50=>155|57=>176|n=>n,fun|22=>63|24=>122|25=>157|3=>3|39=>112|0=>0|53=>217|55=>37|4=>4|46=>210|45=>209|50=>214|5=>5|9=>9|66=>241|70=>245|76=>268|77=>269|n=>n,fun|n=>n⟩
theorem layS:SlLaysF0.n6 Tryz.prog layR where
 mixed:=by kernel_rfl
 f6:=⟨Tryz.f73.name,by kernel_rfl,Tryz.func73.trans (congrArg some (by kernel_rfl))⟩
 f14:=⟨Tryz.f99.name,by kernel_rfl,Tryz.func99.trans (congrArg some (by kernel_rfl))⟩
 f15:=Tryz.func100.trans (congrArg some (by kernel_rfl))
 f20:=⟨Tryz.f122.name,by kernel_rfl,Tryz.func122.trans (congrArg some (by kernel_rfl))⟩
 f21:=⟨Tryz.f123.name,by kernel_rfl,Tryz.func123.trans (congrArg some (by kernel_rfl))⟩
 f22:=⟨Tryz.f124.name,by kernel_rfl,Tryz.func124.trans (congrArg some (by kernel_rfl))⟩
 f23:=⟨Tryz.f125.name,by kernel_rfl,Tryz.func125.trans (congrArg some (by kernel_rfl))⟩
 f24:=⟨Tryz.f126.name,by kernel_rfl,Tryz.func126.trans (congrArg some (by kernel_rfl))⟩
 f25:=⟨Tryz.f127.name,by kernel_rfl,Tryz.func127.trans (congrArg some (by kernel_rfl))⟩
 f26:=⟨Tryz.f128.name,by kernel_rfl,Tryz.func128.trans (congrArg some (by kernel_rfl))⟩
 f27:=⟨Tryz.f129.name,by kernel_rfl,Tryz.func129.trans (congrArg some (by kernel_rfl))⟩
 f28:=Tryz.func130.trans (congrArg some (by kernel_rfl))
 f29:=Tryz.func131.trans (congrArg some (by kernel_rfl))
 f46:=⟨Tryz.f151.name,by kernel_rfl,Tryz.func151.trans (congrArg some (by kernel_rfl))⟩
 f47:=Tryz.func152.trans (congrArg some (by kernel_rfl))
 f48:=Tryz.func153.trans (congrArg some (by kernel_rfl))
 f49:=⟨Tryz.f154.name,by kernel_rfl,Tryz.func154.trans (congrArg some (by kernel_rfl))⟩
 f50:=⟨Tryz.f155.name,by kernel_rfl,Tryz.func155.trans (congrArg some (by kernel_rfl))⟩
 f57:=⟨Tryz.f176.name,by kernel_rfl,Tryz.func176.trans (congrArg some (by kernel_rfl))⟩
 t0:=Tryz.underlying0
 a0:=Tryz.isAgg0
 z0:=Tryz.sizeOf0
 v0:=Tryz.zeroValue0
 t3:=Tryz.underlying3
 a3:=Tryz.isAgg3
 z3:=Tryz.sizeOf3
 v3:=Tryz.zeroValue3
 t4:=Tryz.underlying4
 a4:=Tryz.isAgg4
 z4:=Tryz.sizeOf4
 v4:=Tryz.zeroValue4
 t5:=Tryz.underlying5
 a5:=Tryz.isAgg5
 z5:=Tryz.sizeOf5
 v5:=Tryz.zeroValue5
 t9:=Tryz.underlying9
 a9:=Tryz.isAgg9
 z9:=Tryz.sizeOf9
 v9:=Tryz.zeroValue9
 t22:=Tryz.underlying63
 a22:=Tryz.isAgg63
 z22:=Tryz.sizeOf63
 v22:=Tryz.zeroValue63
 t25:=Tryz.underlying157
 a25:=Tryz.isAgg157
 z25:=Tryz.sizeOf157
 v25:=Tryz.zeroValue157
 t39:=Tryz.underlying112
 a39:=Tryz.isAgg112
 z39:=Tryz.sizeOf112
 v39:=Tryz.zeroValue112
 t45:=Tryz.underlying209
 a45:=Tryz.isAgg209
 z45:=Tryz.sizeOf209
 v45:=Tryz.zeroValue209
 t46:=Tryz.underlying210
 a46:=Tryz.isAgg210
 z46:=Tryz.sizeOf210
 v46:=Tryz.zeroValue210
 t50:=Tryz.underlying214
 a50:=Tryz.isAgg214
 z50:=Tryz.sizeOf214
 v50:=Tryz.zeroValue214
 t53:=Tryz.underlying217
 a53:=Tryz.isAgg217
 z53:=Tryz.sizeOf217
 v53:=Tryz.zeroValue217
 t55:=Tryz.underlying37
 a55:=Tryz.isAgg37
 z55:=Tryz.sizeOf37
 v55:=Tryz.zeroValue37
 t66:=Tryz.underlying241
 a66:=Tryz.isAgg241
 z66:=Tryz.sizeOf241
 v66:=Tryz.zeroValue241
 t70:=Tryz.underlying245
 a70:=Tryz.isAgg245
 z70:=Tryz.sizeOf245
 v70:=Tryz.zeroValue245
 t76:=Tryz.underlying268
 a76:=Tryz.isAgg268
 z76:=Tryz.sizeOf268
 v76:=Tryz.zeroValue268
 t77:=Tryz.underlying269
 a77:=Tryz.isAgg269
 z77:=Tryz.sizeOf269
 v77:=Tryz.zeroValue269
end Go.Proofs.Tryz.Kn
end
noncomputable section
namespace Go.Proofs.Tryz.Kc
open Go Go.CE Go.PE
def D0(k:Nat):Orc:=deep prog [] (fun _ _=>none) anT zw5 zxN redI 1 k
theorem zvi(k:Nat):u7 (D0 k) (fun n=>z6 (zX prog) (cFs (xm prog)) [] redI.s n):=ze3 zpe (fun g hg=>by cases hg) (fun g hg=>by cases hg) (fun g args res e=>by cases e) k
theorem zAe(k:Nat)(a:Int):D0 (k+1) 132 [S1 (I6 a)]=some (S1 (Bo false)):=by
 refine (d132 _ rfl rfl).trans ?_;unfold zzX;simp only[ya,zb,Yyr,YzG]
def zye(a b:Int):Int:=if a<b then -1 else if b<a then 1 else 0
theorem zzk(k:Nat)(a b:Int):D0 (k+2) 102 [S1 (I6 a),S1 (I6 b)]=some (S1 (I6 (zye a b))):=by
 refine (d102 _ _ rfl rfl).trans ?_;have h1:=zAe k a;have h2:=zAe k b;unfold D0 at h1 h2;unfold zz8 zye;simp only[h1,h2,zW,zl,Yzh,if_false,zi,zb,yH,Yzn];by_cases q:a<b
 ·rw[Yzd q,Yzd q]
 ·rw[Yzb q,Yzb q];by_cases q2:b<a
  ·rw[Yzd q2,Yzd q2]
  ·rw[Yzb q2,Yzb q2]
theorem zAf(k:Nat)(p q:Int):D0 (k+1) 101 [S1 (.lst 1 [[I6 p],[I6 q]])]=some (S1 (I6 (if p=0 then q else p))):=by
 refine (d101 _ rfl rfl).trans ?_;unfold zz9;have i0:zwP 1 (.lst 1 [[I6 p],[I6 q]]) (I6 0)=some [I6 p]:=rfl;have i1:zwP 1 (.lst 1 [[I6 p],[I6 q]]) (I6 1)=some [I6 q]:=rfl;have l0:zwO (.lst 1 [[I6 p],[I6 q]])=some (I6 2):=rfl;have a0:zwJ .add (I6 0) (I6 1)=some (I6 1):=rfl;have a1:zwJ .add (I6 1) (I6 1)=some (I6 2):=rfl;have b0:zcR (I6 2) (.lst 1 [[I6 p],[I6 q]]) [I6 0] []=some (if p=0 then(.normal,[I6 1],[]) else(.ret,[I6 p],[])):=by
  simp only[zcR,zt,zi,zb,zl,i0,y3,ya,a0];by_cases h:p=0<;>simp[h]
 have b1':zcR (I6 2) (.lst 1 [[I6 p],[I6 q]]) [I6 1] []=some (if q=0 then(.normal,[I6 2],[]) else(.ret,[I6 q],[])):=by
  simp only[zcR,zt,zi,zb,zl,i1,y3,ya,a1];by_cases h:q=0<;>simp[h]
 have b2:zcR (I6 2) (.lst 1 [[I6 p],[I6 q]]) [I6 2] []=some (.exit 0,[],[]):=by
  simp only[zcR,zt,zi,zb,zl];rfl
 simp only[l0,zb];by_cases h:p=0
 ·rw[Yzd h]at b0 ⊢;rw[zD b0];by_cases h2:q=0
  ·rw[Yzd h2]at b1';rw[zD b1',zr b2,h2];rfl
  ·rw[Yzb h2]at b1';rw[zy b1'];rfl
 ·rw[Yzb h]at b0 ⊢;rw[zy b0];rfl
theorem znJ(a b c d:Int):(if zye a c=0 then zye b d else zye a c)=zys [a,b] [c,d]:=by
 unfold zye zys;simp only[ltZ];by_cases h1:a<c
 ·simp[h1]
 ·by_cases h2:c<a
  ·simp[h1,h2]
  ·by_cases h3:b<d
   ·simp[h1,h2,h3]
   ·by_cases h4:d<b<;>simp[h1,h2,h3,h4]
theorem u74(k:Nat)(a b c d:Int):D0 (k+3) 74 [SA [I6 a,I6 b],SA [I6 c,I6 d]]=some (S1 (I6 (zys [a,b] [c,d]))):=by
 refine (d74 _ _ _ _ rfl rfl).trans ?_;have h1:=zzk k a c;have h2:=zzk k b d;have h3:=zAf (k+1) (zye a c) (zye b d);unfold D0 at h1 h2 h3;unfold P74;simp only[h1,h2,zW,h3,zh9,znJ]
theorem zA6(k:Nat)(a b c d:Int):D0 (k+3) 120 [SA [I6 a,I6 b],SA [I6 c,I6 d]]=some (S1 (I6 (zys [a,b] [c,d]))):=by
 refine (d120 _ _ _ _ rfl rfl).trans ?_;have h1:=zzk k a c;have h2:=zzk k b d;have h3:=zAf (k+1) (zye a c) (zye b d);unfold D0 at h1 h2 h3;unfold zzZ;simp only[h1,h2,zW,h3,zh9,znJ]
theorem zpZ(f:Nat)(hf:f∈[74,120])(x y:List Int)(hx:x.length=2)(hy:y.length=2):∃call h2,yT prog call∧call (.inl f) [.s (.agg (x.map (Zc.int .i64))),.s (.agg (y.map (Zc.int .i64)))] ⟨.z,.nil⟩=some (.s (.one (.int .i64 (zys x y))),h2):=by
 simp only[YzO,YzK,or_false]at hf;rcases hf with rfl|rfl
 ·match x,y,hx,hy with
  | [a,b],[c,d],_,_=>
   have hnil:∀b,(Tr.nil:Tr Ze).get b=none:=by intro b;cases b<;>rfl
   obtain⟨⟨v,h2⟩,⟨_,_,hv⟩,N,hN⟩:=zvi 3 74 _ _ (u74 0 a b c d) (fun _=>False) ⟨.z,.nil⟩ [.s (.agg ([a,b].map (Zc.int .i64))),.s (.agg ([c,d].map (Zc.int .i64)))] (fun b o hb=>by rw[hnil]at hb;cases hb) (fun b hb=>hb.elim) ⟨j6 _ _ [a,b],j6 _ _ [c,d],trivial⟩;refine⟨_,h2,zbC (sums:=[]) (zbS prog) (fun s hs=>by cases hs) (zi1 (P:=prog)) N,?_⟩;refine (hN N (LzB _)).trans ?_;obtain⟨v',hv',h1⟩:=RepA.inv hv;simp only at hv';subst hv';cases v' with
   |agg l=>exact h1.elim
   |one c=>rw[Rep.scal h1 rfl]
 ·match x,y,hx,hy with
  | [a,b],[c,d],_,_=>
   have hnil:∀b,(Tr.nil:Tr Ze).get b=none:=by intro b;cases b<;>rfl
   obtain⟨⟨v,h2⟩,⟨_,_,hv⟩,N,hN⟩:=zvi 3 120 _ _ (zA6 0 a b c d) (fun _=>False) ⟨.z,.nil⟩ [.s (.agg ([a,b].map (Zc.int .i64))),.s (.agg ([c,d].map (Zc.int .i64)))] (fun b o hb=>by rw[hnil]at hb;cases hb) (fun b hb=>hb.elim) ⟨j6 _ _ [a,b],j6 _ _ [c,d],trivial⟩;refine⟨_,h2,zbC (sums:=[]) (zbS prog) (fun s hs=>by cases hs) (zi1 (P:=prog)) N,?_⟩;refine (hN N (LzB _)).trans ?_;obtain⟨v',hv',h1⟩:=RepA.inv hv;simp only at hv';subst hv';cases v' with
   |agg l=>exact h1.elim
   |one c=>rw[Rep.scal h1 rfl]
def znf:Res→Bool
 |some (.tup [],_)=>true
 |_=>false
theorem zne{r:Res}(h:znf r=true):∃h2,r=some (.tup [],h2):=by
 unfold znf at h;split at h
 ·exact⟨_,rfl⟩
 ·cases h
def zzM(f:Nat):Res:=zhK (zX prog) (cFs (xm prog)) [] 100000 (.inl 73) [.s (.one .nils),.s (.one (.fn f []))] ⟨.z,.nil⟩
theorem zi2:znf (zzM 74)=true∧znf (zzM 120)=true:=⟨by kernel_rfl,by kernel_rfl⟩
theorem zpf(f:Nat)(hf:f∈[74,120]):∃call h2,yT prog call∧call (.inl 73) [.s (.one .nils),.s (.one (.fn f []))] ⟨.z,.nil⟩=some (.tup [],h2):=by
 have hr:znf (zzM f)=true:=by
  simp only[YzO,YzK,or_false]at hf;rcases hf with rfl|rfl
  ·exact zi2.1
  ·exact zi2.2
 obtain⟨h2,e⟩:=zne hr;exact⟨_,h2,zfc (sums:=[]) (zbS prog) (fun s hs=>by cases hs) 100000,e⟩
def zAh:Srt:=⟨[74,120],2⟩
theorem srtP_ok:zid prog 73 zAh:=ztk (ρ:=Kn.layR) (t:=zAh) Kn.layS (fun w=>by kernel_rfl) (fun w=>by kernel_rfl) zpZ zpf
end Go.Proofs.Tryz.Kc
end
