/-
  Lemmas: Pfa, Rda, Bs, Oa, Ob, Osh, Oc, Od, Oe, Of, Og, Oh, Oi, Oj, Ok. No condition.
-/
import Derived.Test.YthfdnggfegbbkaaGreatDoorVe
import Derived.Test.YthfdnggfegbbkaaGreatDoorUk
import Derived.Test.YthfdnggfegbbkaaGreatDoorUl
import Derived.Test.YthfdnggfegbbkaaGreatDoorProg
noncomputable section
namespace Go.Proofs.Tryz.Kn
open Go Go.CE Go.PE
abbrev prog : Program := Tryz.prog
def tabI : Nat → Bool := fun g => match g with | 76 => true | 53 => true | 115 => true | 55 => true | 114 => true | _ => false
abbrev redI : Red := zqZ
def an0 : Nat → Option LA := fun _ => none
def anI0 : Nat → List PA → Nat → Nat → Option LA := fun _ _ _ _ => none
abbrev pF (O : Orc) (an : Nat → Option LA) (g : Nat) (args : List DA) : Option DA := pFun prog O tabI (inl prog O tabI anI0 redI 3) an g args
def an4 : Nat → Option LA := fun i => match i with | 0 => some ⟨[.slot 34], [], [], [(3, 3)], [], [], [], [], []⟩ | _ => none
def P7 (O : Orc) (a0_0 a0_1 a0_2 a1_0 a1_1 a2_0 a2_1 a2_2 : DV) : Option DA :=
  b1 (O 27 []) fun v0 =>
 za (pNot v0) fun v1 =>
 ifB v1
 (b1 (O 27 []) fun v2 =>
 some (S1 v2))
 (b1 (O 10 [SA [a0_0, a0_1, a0_2]]) fun v3 =>
 za (pNot v3) fun v4 =>
 ifB v4
 (b1 (O 27 []) fun v5 =>
 some (S1 v5))
 (za (pLen a2_0) fun v6 =>
 za (pBin .gtr v6 (I6 10)) fun v7 =>
 ifB v7
 (b1 (O 27 []) fun v8 =>
 some (S1 v8))
 (bA 4 (O 11 [SA [a0_0, a0_1, a0_2]]) fun g9 =>
 bT [none, none] (O 34 [SA [atD g9 0, atD g9 1, atD g9 2, atD g9 3], SA [a2_0, a2_1, a2_2], .s (.one .nils)]) fun t10 =>
 b1 (O 24 [SA [atD g9 0, atD g9 1, atD g9 2, atD g9 3], SA [a2_0, a2_1, a2_2]]) fun v11 =>
 za (pBin .eql v11 (I6 0)) fun v12 =>
 ifB v12
 (za (pLen (dsO (dsAt t10 0))) fun v13 =>
 za (pBin .gtr v13 (I6 0)) fun v14 =>
 ifB v14
 (some (S1 (.bool false)))
 (za (pBin .neq (dsO (dsAt t10 1)) (I6 5)) fun v15 =>
 ifB v15
 (some (S1 (.bool false)))
 (bA 4 (O 35 [SA [atD g9 0, atD g9 1, atD g9 2, atD g9 3], SA [a1_0, a1_1]]) fun g16 =>
 b1 (O 36 [SA [atD g16 0, atD g16 1, atD g16 2, atD g16 3]]) fun v17 =>
 za (pBin .eql v17 (I6 0)) fun v18 =>
 ifB v18
 (some (S1 (.bool true)))
 (bT [some 5, none] (O 28 [SA [atD g16 0, atD g16 1, atD g16 2, atD g16 3]]) fun t19 =>
 bT [none, none] (O 29 [SA [atD g16 0, atD g16 1, atD g16 2, atD g16 3], S1 (I6 (-1))]) fun t20 =>
 bT [none, none] (O 34 [SA [atD g16 0, atD g16 1, atD g16 2, atD g16 3], SA [a2_0, a2_1, a2_2], .s (.one .nils)]) fun t21 =>
 bT [some 3, none, none] (O 37 [SA [atD g16 0, atD g16 1, atD g16 2, atD g16 3], .s (.one .nils)]) fun t22 =>
 bT [some 2, none] (O 38 [SA [atD g16 0, atD g16 1, atD g16 2, atD g16 3]]) fun t23 =>
 bT [some 3, none] (O 39 [SA [atD g16 0, atD g16 1, atD g16 2, atD g16 3], SA [I6 0, I6 0]]) fun t24 =>
 bT [none, none] (O 30 [SA [atD g16 0, atD g16 1, atD g16 2, atD g16 3]]) fun t25 =>
 za (pBin .eql (atD (dsA (dsAt t19 0)) 4) (I6 0)) fun v26 =>
 ifB v26
 (za (pStr .eql (dsO (dsAt t20 0)) (.str ⟨#[]⟩)) fun v27 =>
 ifB v27
 (za (pLen (dsO (dsAt t21 0))) fun v28 =>
 za (pLen (dsO (dsAt t22 1))) fun v29 =>
 za (pBin .add v28 v29) fun v30 =>
 za (pLen (atD (dsA (dsAt t23 0)) 0)) fun v31 =>
 za (pBin .add v30 v31) fun v32 =>
 za (pLen (dsO (dsAt t25 0))) fun v33 =>
 za (pBin .add v32 v33) fun v34 =>
 za (pBin .eql v34 (I6 0)) fun v35 =>
 ifB v35
 (za (pBin .eql (dsO (dsAt t19 1)) v17) fun v36 =>
 ifB v36
 (za (pBin .eql (dsO (dsAt t20 1)) v17) fun v37 =>
 ifB v37
 (za (pBin .eql (dsO (dsAt t21 1)) v17) fun v38 =>
 ifB v38
 (za (pBin .eql (dsO (dsAt t22 2)) v17) fun v39 =>
 ifB v39
 (za (pBin .eql (dsO (dsAt t23 1)) v17) fun v40 =>
 ifB v40
 (za (pBin .eql (dsO (dsAt t24 1)) v17) fun v41 =>
 ifB v41
 (za (pBin .eql (dsO (dsAt t25 1)) v17) fun v42 =>
 some (S1 v42))
 (some (S1 (.bool false))))
 (some (S1 (.bool false))))
 (some (S1 (.bool false))))
 (some (S1 (.bool false))))
 (some (S1 (.bool false))))
 (some (S1 (.bool false))))
 (some (S1 (.bool false))))
 (some (S1 (.bool false))))
 (some (S1 (.bool false)))))))
 (za (pLen (dsO (dsAt t10 0))) fun v43 =>
 za (pBin .gtr v43 (I6 0)) fun v44 =>
 ifB v44
 (some (S1 (.bool false)))
 (za (pBin .neq (dsO (dsAt t10 1)) v11) fun v45 =>
 ifB v45
 (some (S1 (.bool false)))
 (bA 4 (O 35 [SA [atD g9 0, atD g9 1, atD g9 2, atD g9 3], SA [a1_0, a1_1]]) fun g46 =>
 b1 (O 36 [SA [atD g46 0, atD g46 1, atD g46 2, atD g46 3]]) fun v47 =>
 za (pBin .eql v47 (I6 0)) fun v48 =>
 ifB v48
 (some (S1 (.bool true)))
 (bT [some 5, none] (O 28 [SA [atD g46 0, atD g46 1, atD g46 2, atD g46 3]]) fun t49 =>
 bT [none, none] (O 29 [SA [atD g46 0, atD g46 1, atD g46 2, atD g46 3], S1 (I6 (-1))]) fun t50 =>
 bT [none, none] (O 34 [SA [atD g46 0, atD g46 1, atD g46 2, atD g46 3], SA [a2_0, a2_1, a2_2], .s (.one .nils)]) fun t51 =>
 bT [some 3, none, none] (O 37 [SA [atD g46 0, atD g46 1, atD g46 2, atD g46 3], .s (.one .nils)]) fun t52 =>
 bT [some 2, none] (O 38 [SA [atD g46 0, atD g46 1, atD g46 2, atD g46 3]]) fun t53 =>
 bT [some 3, none] (O 39 [SA [atD g46 0, atD g46 1, atD g46 2, atD g46 3], SA [I6 0, I6 0]]) fun t54 =>
 bT [none, none] (O 30 [SA [atD g46 0, atD g46 1, atD g46 2, atD g46 3]]) fun t55 =>
 za (pBin .eql (atD (dsA (dsAt t49 0)) 4) (I6 0)) fun v56 =>
 ifB v56
 (za (pStr .eql (dsO (dsAt t50 0)) (.str ⟨#[]⟩)) fun v57 =>
 ifB v57
 (za (pLen (dsO (dsAt t51 0))) fun v58 =>
 za (pLen (dsO (dsAt t52 1))) fun v59 =>
 za (pBin .add v58 v59) fun v60 =>
 za (pLen (atD (dsA (dsAt t53 0)) 0)) fun v61 =>
 za (pBin .add v60 v61) fun v62 =>
 za (pLen (dsO (dsAt t55 0))) fun v63 =>
 za (pBin .add v62 v63) fun v64 =>
 za (pBin .eql v64 (I6 0)) fun v65 =>
 ifB v65
 (za (pBin .eql (dsO (dsAt t49 1)) v47) fun v66 =>
 ifB v66
 (za (pBin .eql (dsO (dsAt t50 1)) v47) fun v67 =>
 ifB v67
 (za (pBin .eql (dsO (dsAt t51 1)) v47) fun v68 =>
 ifB v68
 (za (pBin .eql (dsO (dsAt t52 2)) v47) fun v69 =>
 ifB v69
 (za (pBin .eql (dsO (dsAt t53 1)) v47) fun v70 =>
 ifB v70
 (za (pBin .eql (dsO (dsAt t54 1)) v47) fun v71 =>
 ifB v71
 (za (pBin .eql (dsO (dsAt t55 1)) v47) fun v72 =>
 some (S1 v72))
 (some (S1 (.bool false))))
 (some (S1 (.bool false))))
 (some (S1 (.bool false))))
 (some (S1 (.bool false))))
 (some (S1 (.bool false))))
 (some (S1 (.bool false))))
 (some (S1 (.bool false))))
 (some (S1 (.bool false))))
 (some (S1 (.bool false))))))))))
theorem p7 (O : Orc) (a0_0 a0_1 a0_2 a1_0 a1_1 a2_0 a2_1 a2_2 : DV) : pF O an0 7 [SA [a0_0, a0_1, a0_2], SA [a1_0, a1_1], SA [a2_0, a2_1, a2_2]] = P7 O a0_0 a0_1 a0_2 a1_0 a1_1 a2_0 a2_1 a2_2 := by kernel_rfl
def an10 : Nat → Option LA := fun i => match i with | 0 => some ⟨[.slot 3], [], [], [], [], [], [.slot 2], [], []⟩ | _ => none
def ze2 (a0_1 : DV) (L12 : List DV) (_M13 : List OC) : Option PX :=
  za (pLen a0_1) fun v14 =>
 za (pBin .lss (nthD L12 0) v14) fun v15 =>
 ifB v15
 (za (pIdx 4 a0_1 (nthD L12 0)) fun x16 =>
 za (pLen (atD x16 3)) fun v17 =>
 za (pBin .gtr v17 (I6 3)) fun v18 =>
 ifB v18
 (some (.ret, [.bool false], []))
 (za (pBin .add (nthD L12 0) (I6 1)) fun v19 =>
 some (.normal, [v19], [])))
 (some (.exit 0, [], []))
def P10 (_O : Orc) (a0_0 a0_1 a0_2 : DV) : Option DA :=
  za (pLen a0_0) fun v0 =>
 za (pBin .lss v0 (I6 1)) fun v1 =>
 ifB v1
 (some (S1 (.bool false)))
 (za (pLen a0_0) fun v2 =>
 za (pBin .gtr v2 (I6 3)) fun v3 =>
 ifB v3
 (some (S1 (.bool false)))
 (za (pLen a0_1) fun v4 =>
 za (pBin .lss v4 (I6 1)) fun v5 =>
 ifB v5
 (some (S1 (.bool false)))
 (za (pLen a0_1) fun v6 =>
 za (pBin .gtr v6 (I6 3)) fun v7 =>
 ifB v7
 (some (S1 (.bool false)))
 (za (pLen a0_2) fun v8 =>
 za (pBin .gtr v8 (I6 3)) fun v9 =>
 ifB v9
 (some (S1 (.bool false)))
 (xy (ya (ze2 a0_1) [I6 0] [])
 (fun i20 _L10 _M11 => bif Nat.beq i20 0 then
 (some (S1 (.bool true)))
 else (none))
 (fun L10 _M11 => some (S1 (nthD L10 0))))))))
theorem p10 (O : Orc) (a0_0 a0_1 a0_2 : DV) : pF O an10 10 [SA [a0_0, a0_1, a0_2]] = P10 O a0_0 a0_1 a0_2 := by kernel_rfl
def an11 : Nat → Option LA := fun i => match i with | 0 => some ⟨[.slot 4, .cell 2 0], [(.cell 2 1, 6), (.cell 2 2, 5), (.cell 2 3, 5)], [(2, 4)], [], [.cell 2 0], [(.cell 2 1, 6), (.cell 2 2, 5), (.cell 2 3, 5)], [.cell 2 0, .cell 2 1, .cell 2 2, .cell 2 3], [], []⟩ | 1 => some ⟨[.slot 5, .cell 2 0, .cell 2 1], [(.cell 2 2, 5), (.cell 2 3, 5)], [(2, 4)], [], [.cell 2 0, .cell 2 1], [(.cell 2 2, 5), (.cell 2 3, 5)], [.cell 2 0, .cell 2 1, .cell 2 2, .cell 2 3], [], [3]⟩ | 2 => some ⟨[.slot 9, .cell 10 0, .cell 10 1, .cell 10 2, .cell 10 3], [(.cell 10 4, 4)], [(10, 5)], [], [.cell 10 0, .cell 10 1, .cell 10 2, .cell 10 3], [(.cell 10 4, 4)], [.cell 10 0, .cell 10 1, .cell 10 2, .cell 10 3, .cell 10 4], [], []⟩ | 3 => some ⟨[.slot 11, .cell 2 0, .cell 2 1], [(.cell 2 2, 5), (.cell 2 3, 5)], [(2, 4)], [], [.cell 2 0, .cell 2 1], [(.cell 2 2, 5), (.cell 2 3, 5)], [.cell 2 0, .cell 2 1, .cell 2 2, .cell 2 3], [], []⟩ | _ => none
def zeZ (a0_2 v40 : DV) (L43 : List DV) (M44 : List OC) : Option PX :=
  za (pLen a0_2) fun v45 =>
 za (pBin .lss (nthD L43 0) v45) fun v46 =>
 ifB v46
 (za (pIdx 4 a0_2 (nthD L43 0)) fun x47 =>
 za (pBin .add (I6 48) (nthD L43 0)) fun v48 =>
 za (yQ .u8 v48) fun v49 =>
 za (pB2s (.lst 1 [[v49]])) fun v50 =>
 za (pStr .add (.str ⟨#[67]⟩) v50) fun v51 =>
 za (yQ .i64 (atD x47 0)) fun v52 =>
 za (pBin .rem v52 v40) fun v53 =>
 za (yQ .i64 (atD x47 1)) fun v54 =>
 za (pBin .rem v54 v40) fun v55 =>
 za (yQ .i64 (atD x47 2)) fun v56 =>
 za (pBin .rem v56 (I6 25)) fun v57 =>
 za (pBin .eql v53 v55) fun v58 =>
 ifB v58
 (za (pBin .eql v57 (I6 0)) fun v59 =>
 ifB v59
 (gd (fits 48 (lenO (nthM M44 1) + 1)) (
 za (pBin .add (nthD L43 0) (I6 1)) fun v60 =>
 some (.normal, [v60, nthD L43 1, nthD L43 2], [nthM M44 0, some (zM (nthM M44 1) ++ [[v51, v53, v55, I6 12, atD x47 3]])])))
 (gd (fits 48 (lenO (nthM M44 1) + 1)) (
 za (pBin .add (nthD L43 0) (I6 1)) fun v61 =>
 some (.normal, [v61, nthD L43 1, nthD L43 2], [nthM M44 0, some (zM (nthM M44 1) ++ [[v51, v53, v55, v57, atD x47 3]])]))))
 (gd (fits 48 (lenO (nthM M44 1) + 1)) (
 za (pBin .add (nthD L43 0) (I6 1)) fun v62 =>
 some (.normal, [v62, nthD L43 1, nthD L43 2], [nthM M44 0, some (zM (nthM M44 1) ++ [[v51, v53, v55, v57, atD x47 3]])]))))
 (some (.exit 6, [nthD L43 1, nthD L43 2], [nthM M44 0, nthM M44 1]))
def ze0 (O : Orc) (x16 L12 : List DV) (L29 : List DV) (M30 : List OC) : Option PX :=
  za (pLen (atD x16 3)) fun v31 =>
 za (pBin .lss (nthD L29 0) v31) fun v32 =>
 ifB v32
 (za (pIdx 4 (atD x16 3) (nthD L29 0)) fun x33 =>
 bA 4 (O 49 [S1 (nthD L12 2), SA [nthD L29 3, nthD L29 4], SA [atD x33 0, atD x33 1, atD x33 2, atD x33 3], S1 (nthD L29 0)]) fun g34 =>
 gd (fits 56 (lenO (nthM M30 0) + 1)) (
 za (pBin .add (nthD L29 0) (I6 1)) fun v35 =>
 some (.normal, [v35, nthD L29 1, nthD L29 2, nthD L29 3, nthD L29 4], [some (zM (nthM M30 0) ++ [[atD g34 0, atD g34 1, atD g34 2, atD g34 3]])])))
 (some (.exit 4, [nthD L29 1, nthD L29 2, nthD L29 3, nthD L29 4], [nthM M30 0]))
def ze1 (O : Orc) (a0_1 : DV) (L12 : List DV) (M13 : List OC) : Option PX :=
  za (pLen a0_1) fun v14 =>
 za (pBin .lss (nthD L12 0) v14) fun v15 =>
 ifB v15
 (za (pIdx 4 a0_1 (nthD L12 0)) fun x16 =>
 za (pBin .rem (atD x16 0) (U8 12)) fun v17 =>
 za (yQ .i64 v17) fun v18 =>
 za (pBin .add (I6 36) v18) fun v19 =>
 za (pBin .add (I6 48) (nthD L12 0)) fun v20 =>
 za (yQ .u8 v20) fun v21 =>
 za (pB2s (.lst 1 [[v21]])) fun v22 =>
 za (pStr .add (.str ⟨#[68]⟩) v22) fun v23 =>
 za (pBin .rem (atD x16 1) (U8 9)) fun v24 =>
 za (yQ .i64 v24) fun v25 =>
 za (pBin .add v19 v25) fun v26 =>
 xy (ya (ze0 O x16 L12) [I6 0, v23, atD x16 2, v19, v26] [none])
 (fun i36 L27 M28 => bif Nat.beq i36 4 then
 (gd (fits 64 (lenO (nthM M13 0) + 1)) (
 za (pBin .add (nthD L12 0) (I6 1)) fun v37 =>
 some (.normal, [v37, nthD L12 1, nthD L12 2], [some (zM (nthM M13 0) ++ [[nthD L27 0, nthD L27 1, nthD L27 2, nthD L27 3, mkL 4 (nthM M28 0)]]), nthM M13 1])))
 else (bif Nat.beq i36 3 then
 (za (pBin .add (nthD L12 0) (I6 1)) fun v38 =>
 some (.normal, [v38, nthD L12 1, nthD L12 2], [nthM M13 0, nthM M13 1]))
 else (some (.exit i36, [nthD L12 1, nthD L12 2], [nthM M13 0, nthM M13 1]))))
 (fun _L27 _M28 => none))
 (some (.exit 2, [nthD L12 1, nthD L12 2], [nthM M13 0, nthM M13 1]))
def zlo (O : Orc) (a0_0 : DV) (L2 : List DV) (M3 : List OC) : Option PX :=
  za (pLen a0_0) fun v4 =>
 za (pBin .lss (nthD L2 0) v4) fun v5 =>
 ifB v5
 (za (pIdx 9 a0_0 (nthD L2 0)) fun x6 =>
 bA 6 (O 48 [SA [atD x6 0, atD x6 1, atD x6 2, atD x6 3, atD x6 4, atD x6 5, atD x6 6, atD x6 7, atD x6 8], S1 (nthD L2 0)]) fun g7 =>
 gd (fits 80 (lenO (nthM M3 0) + 1)) (
 za (pBin .add (nthD L2 0) (I6 1)) fun v8 =>
 some (.normal, [v8, nthD L2 1], [some (zM (nthM M3 0) ++ [[atD g7 0, atD g7 1, atD g7 2, atD g7 3, atD g7 4, atD g7 5]]), nthM M3 1, nthM M3 2])))
 (some (.exit 0, [nthD L2 1], [nthM M3 0, nthM M3 1, nthM M3 2]))
def P11 (O : Orc) (a0_0 a0_1 a0_2 : DV) : Option DA :=
  xy (ya (zlo O a0_0) [I6 0, .str ⟨#[79, 114, 103, 97, 110]⟩] [none, none, none])
 (fun i9 L0 M1 => bif Nat.beq i9 0 then
 (xy (ya (ze1 O a0_1) [I6 0, nthD L0 0, mkL 6 (nthM M1 0)] [nthM M1 1, nthM M1 2])
 (fun i39 L10 M11 => bif Nat.beq i39 2 then
 (za (pLen a0_1) fun v40 =>
 xy (ya (zeZ a0_2 v40) [I6 0, nthD L10 0, nthD L10 1] [nthM M11 0, nthM M11 1])
 (fun i63 L41 M42 => bif Nat.beq i63 6 then
 (some (SA [nthD L41 0, nthD L41 1, mkL 5 (nthM M42 0), mkL 5 (nthM M42 1)]))
 else (none))
 (fun _L41 _M42 => none))
 else (none))
 (fun _L10 _M11 => none))
 else (none))
 (fun _L0 _M1 => none)
theorem p11 (O : Orc) (a0_0 a0_1 a0_2 : DV) : pF O an11 11 [SA [a0_0, a0_1, a0_2]] = P11 O a0_0 a0_1 a0_2 := by kernel_rfl
def an24 : Nat → Option LA := fun i => match i with | 0 => some ⟨[.slot 23], [], [], [], [], [], [.slot 4], [], []⟩ | _ => none
def zlm (v5 a0_2 a1_0 : DV) (L8 : List DV) (_M9 : List OC) : Option PX :=
  za (pBin .lss (nthD L8 0) v5) fun v10 =>
 ifB v10
 (za (pIdx 5 a0_2 (nthD L8 0)) fun x11 =>
 za (pIdx 1 a1_0 (nthD L8 0)) fun x12 =>
 za (pLen (atD x11 4)) fun v13 =>
 za (jo false (atD x12 0) v13) fun v14 =>
 za (pBin .neq v14 (U64 0)) fun v15 =>
 ifB v15
 (some (.ret, [I6 3], []))
 (za (pBin .add (nthD L8 0) (I6 1)) fun v16 =>
 some (.normal, [v16], [])))
 (some (.exit 0, [], []))
def P24 (O : Orc) (a0_0 a0_1 a0_2 a0_3 a1_0 a1_1 a1_2 : DV) : Option DA :=
  b1 (O 36 [SA [a0_0, a0_1, a0_2, a0_3]]) fun v0 =>
 za (pBin .neq v0 (I6 0)) fun v1 =>
 ifB v1
 (some (S1 v0))
 (za (pLen a1_0) fun v2 =>
 za (pLen a0_2) fun v3 =>
 za (pBin .neq v2 v3) fun v4 =>
 ifB v4
 (some (S1 (I6 5)))
 (za (pLen a0_2) fun v5 =>
 xy (ya (zlm v5 a0_2 a1_0) [I6 0] [])
 (fun i17 _L6 _M7 => bif Nat.beq i17 0 then
 (za (pLen a0_3) fun v18 =>
 za (jo false a1_1 v18) fun v19 =>
 za (pBin .neq v19 (U64 0)) fun v20 =>
 ifB v20
 (some (S1 (I6 3)))
 (za (pLen a0_2) fun v21 =>
 za (jo false a1_2 v21) fun v22 =>
 za (pBin .neq v22 (U64 0)) fun v23 =>
 ifB v23
 (some (S1 (I6 3)))
 (some (S1 (I6 0)))))
 else (none))
 (fun L6 _M7 => some (S1 (nthD L6 0)))))
theorem p24 (O : Orc) (a0_0 a0_1 a0_2 a0_3 a1_0 a1_1 a1_2 : DV) : pF O an24 24 [SA [a0_0, a0_1, a0_2, a0_3], SA [a1_0, a1_1, a1_2]] = P24 O a0_0 a0_1 a0_2 a0_3 a1_0 a1_1 a1_2 := by kernel_rfl
def P28 (O : Orc) (a0_0 a0_1 a0_2 a0_3 : DV) : Option DA :=
  b1 (O 36 [SA [a0_0, a0_1, a0_2, a0_3]]) fun v0 =>
 za (pBin .neq v0 (I6 0)) fun v1 =>
 ifB v1
 (some (.tup [.agg [.nils, .nils, I6 0, I6 0, I6 0], .one v0]))
 (bA 5 (O 68 [SA [a0_0, a0_1, a0_2, a0_3]]) fun g2 =>
 some (.tup [.agg [atD g2 0, atD g2 1, atD g2 2, atD g2 3, atD g2 4], .one (I6 0)]))
theorem p28 (O : Orc) (a0_0 a0_1 a0_2 a0_3 : DV) : pF O an0 28 [SA [a0_0, a0_1, a0_2, a0_3]] = P28 O a0_0 a0_1 a0_2 a0_3 := by kernel_rfl
def P29 (O : Orc) (a0_0 a0_1 a0_2 a0_3 a1 : DV) : Option DA :=
  b1 (O 36 [SA [a0_0, a0_1, a0_2, a0_3]]) fun v0 =>
 za (pBin .neq v0 (I6 0)) fun v1 =>
 ifB v1
 (some (.tup [.one (.str ⟨#[]⟩), .one v0]))
 (bA 5 (O 68 [SA [a0_0, a0_1, a0_2, a0_3]]) fun g2 =>
 za (pBin .lss a1 (I6 0)) fun v3 =>
 ifB v3
 (some (.tup [.one (.str ⟨#[]⟩), .one (I6 3)]))
 (za (pBin .geq a1 (atD g2 4)) fun v4 =>
 ifB v4
 (some (.tup [.one (.str ⟨#[]⟩), .one (I6 3)]))
 (za (pBin .geq a1 (atD g2 3)) fun v5 =>
 ifB v5
 (za (pBin .sub a1 (atD g2 3)) fun v6 =>
 za (pIdx 5 a0_2 v6) fun x7 =>
 za (pStr .add (.str ⟨#[111, 102, 102, 32]⟩) (atD x7 0)) fun v8 =>
 some (.tup [.one v8, .one (I6 0)]))
 (za (pBin .geq a1 (atD g2 2)) fun v9 =>
 ifB v9
 (za (pBin .sub a1 (atD g2 2)) fun v10 =>
 za (pIdx 5 a0_3 v10) fun x11 =>
 za (pStr .add (.str ⟨#[99, 111, 117, 112, 108, 101, 114, 32]⟩) (atD x11 0)) fun v12 =>
 some (.tup [.one v12, .one (I6 0)]))
 (b1 (O 69 [S1 a0_2]) fun _v13 =>
 none)))))
theorem p29 (O : Orc) (a0_0 a0_1 a0_2 a0_3 a1 : DV) : pF O an0 29 [SA [a0_0, a0_1, a0_2, a0_3], S1 a1] = P29 O a0_0 a0_1 a0_2 a0_3 a1 := by kernel_rfl
def P30 (O : Orc) (a0_0 a0_1 a0_2 a0_3 : DV) : Option DA :=
  b1 (O 36 [SA [a0_0, a0_1, a0_2, a0_3]]) fun v0 =>
 za (pBin .neq v0 (I6 0)) fun v1 =>
 ifB v1
 (some (.tup [.one .nils, .one v0]))
 (b1 (O 71 [SA [a0_0, a0_1, a0_2, a0_3]]) fun v2 =>
 some (.tup [.one v2, .one (I6 0)]))
theorem p30 (O : Orc) (a0_0 a0_1 a0_2 a0_3 : DV) : pF O an0 30 [SA [a0_0, a0_1, a0_2, a0_3]] = P30 O a0_0 a0_1 a0_2 a0_3 := by kernel_rfl
def an34 : Nat → Option LA := fun i => match i with | 0 => some ⟨[.slot 44], [], [], [(3, 1)], [], [], [], [], []⟩ | 1 => some ⟨[.slot 55], [], [], [(3, 1)], [], [], [], [], []⟩ | 2 => some ⟨[.slot 76], [], [], [(3, 1)], [], [], [], [], []⟩ | 3 => some ⟨[.slot 114], [], [], [(3, 1)], [], [], [], [], []⟩ | _ => none
def zuk (v57 : DV) (g6 : List DV) (a1_1 : DV) (L60 : List DV) (M61 : List OC) : Option PX :=
  za (pBin .lss (nthD L60 0) v57) fun v62 =>
 ifB v62
 (za (pBin .add (atD g6 2) (nthD L60 0)) fun v63 =>
 za (jo false a1_1 (nthD L60 0)) fun v64 =>
 za (pBin .and v64 (U64 1)) fun v65 =>
 za (pBin .eql v65 (U64 1)) fun v66 =>
 za (qP (nthM M61 0) v63) fun n67 =>
 za (setO 1 (nthM M61 0) n67 0 [v66]) fun w68 =>
 za (pBin .add (nthD L60 0) (I6 1)) fun v69 =>
 some (.normal, [v69], [w68]))
 (some (.exit 6, [], [nthM M61 0]))
def zul (v31 : DV) (g6 L11 : List DV) (a1_0 : DV) (L34 : List DV) (M35 : List OC) : Option PX :=
  za (pBin .lss (nthD L34 0) v31) fun v36 =>
 ifB v36
 (za (pIdx 1 (atD g6 1) (nthD L11 0)) fun x37 =>
 za (pBin .add (atD x37 0) (nthD L34 0)) fun v38 =>
 za (pIdx 1 a1_0 (nthD L11 0)) fun x39 =>
 za (jo false (atD x39 0) (nthD L34 0)) fun v40 =>
 za (pBin .and v40 (U64 1)) fun v41 =>
 za (pBin .eql v41 (U64 1)) fun v42 =>
 za (qP (nthM M35 0) v38) fun n43 =>
 za (setO 1 (nthM M35 0) n43 0 [v42]) fun w44 =>
 za (pBin .add (nthD L34 0) (I6 1)) fun v45 =>
 some (.normal, [v45], [w44]))
 (some (.exit 4, [], [nthM M35 0]))
def zum (v17 v16 : DV) (g6 L11 x14 : List DV) (L20 : List DV) (M21 : List OC) : Option PX :=
  za (pBin .lss (nthD L20 0) v17) fun v22 =>
 ifB v22
 (za (pIdx 1 v16 (nthD L20 0)) fun x23 =>
 za (pIdx 1 (atD g6 0) (nthD L11 0)) fun x24 =>
 za (pBin .add (atD x24 0) (atD x23 0)) fun v25 =>
 za (pBin .sub v25 (atD x14 2)) fun v26 =>
 za (qP (nthM M21 0) v26) fun n27 =>
 za (setO 1 (nthM M21 0) n27 0 [.bool true]) fun w28 =>
 za (pBin .add (nthD L20 0) (I6 1)) fun v29 =>
 some (.normal, [v29], [w28]))
 (some (.exit 2, [], [nthM M21 0]))
def zun (O : Orc) (v8 a0_2 a2 : DV) (g6 : List DV) (a1_0 a1_2 : DV) (L11 : List DV) (M12 : List OC) : Option PX :=
  za (pBin .lss (nthD L11 0) v8) fun v13 =>
 ifB v13
 (za (pIdx 5 a0_2 (nthD L11 0)) fun x14 =>
 za (pIdx 2 a2 (nthD L11 0)) fun x15 =>
 b1 (O 73 [SA [atD x15 0, atD x15 1]]) fun v16 =>
 za (pLen v16) fun v17 =>
 xy (ya (zum v17 v16 g6 L11 x14) [I6 0] [nthM M12 0])
 (fun i30 _L18 M19 => bif Nat.beq i30 2 then
 (za (pLen (atD x14 4)) fun v31 =>
 xy (ya (zul v31 g6 L11 a1_0) [I6 0] [nthM M19 0])
 (fun i46 _L32 M33 => bif Nat.beq i46 4 then
 (za (pBin .add (atD g6 3) (nthD L11 0)) fun v47 =>
 za (jo false a1_2 (nthD L11 0)) fun v48 =>
 za (pBin .and v48 (U64 1)) fun v49 =>
 za (pBin .eql v49 (U64 1)) fun v50 =>
 za (qP (nthM M33 0) v47) fun n51 =>
 za (setO 1 (nthM M33 0) n51 0 [v50]) fun w52 =>
 za (pBin .add (nthD L11 0) (I6 1)) fun v53 =>
 some (.normal, [v53], [w52]))
 else (bif Nat.beq i46 1 then
 (za (pBin .add (nthD L11 0) (I6 1)) fun v54 =>
 some (.normal, [v54], [nthM M33 0]))
 else (some (.exit i46, [], [nthM M33 0]))))
 (fun _L32 _M33 => none))
 else (bif Nat.beq i30 1 then
 (za (pBin .add (nthD L11 0) (I6 1)) fun v55 =>
 some (.normal, [v55], [nthM M19 0]))
 else (some (.exit i30, [], [nthM M19 0]))))
 (fun _L18 _M19 => none))
 (some (.exit 0, [], [nthM M12 0]))
def P34 (O : Orc) (a0_0 a0_1 a0_2 a0_3 a1_0 a1_1 a1_2 a2 : DV) : Option DA :=
  b1 (O 36 [SA [a0_0, a0_1, a0_2, a0_3]]) fun v0 =>
 za (pBin .neq v0 (I6 0)) fun v1 =>
 ifB v1
 (some (.tup [.one .nils, .one v0]))
 (b1 (O 24 [SA [a0_0, a0_1, a0_2, a0_3], SA [a1_0, a1_1, a1_2]]) fun v2 =>
 za (pBin .neq v2 (I6 0)) fun v3 =>
 ifB v3
 (some (.tup [.one .nils, .one v2]))
 (b1 (O 72 [SA [a0_0, a0_1, a0_2, a0_3], S1 a2]) fun v4 =>
 za (pBin .neq v4 (I6 0)) fun v5 =>
 ifB v5
 (some (.tup [.one .nils, .one v4]))
 (bA 5 (O 68 [SA [a0_0, a0_1, a0_2, a0_3]]) fun g6 =>
 za (mkN 1 (atD g6 4) (atD g6 4)) fun n7 =>
 za (pLen a0_2) fun v8 =>
 xy (ya (zun O v8 a0_2 a2 g6 a1_0 a1_2) [I6 0] [some (List.replicate n7 [.bool false])])
 (fun i56 _L9 M10 => bif Nat.beq i56 0 then
 (za (pLen a0_3) fun v57 =>
 xy (ya (zuk v57 g6 a1_1) [I6 0] [nthM M10 0])
 (fun i70 _L58 M59 => bif Nat.beq i70 6 then
 (some (.tup [.one (mkL 1 (nthM M59 0)), .one (I6 0)]))
 else (none))
 (fun _L58 _M59 => none))
 else (none))
 (fun _L9 _M10 => none))))
theorem p34 (O : Orc) (a0_0 a0_1 a0_2 a0_3 a1_0 a1_1 a1_2 a2 : DV) : pF O an34 34 [SA [a0_0, a0_1, a0_2, a0_3], SA [a1_0, a1_1, a1_2], S1 a2] = P34 O a0_0 a0_1 a0_2 a0_3 a1_0 a1_1 a1_2 a2 := by kernel_rfl
def an35 : Nat → Option LA := fun i => match i with | 0 => some ⟨[.cell 0 0], [(.cell 0 1, 6), (.cell 0 2, 5), (.cell 0 3, 5)], [(0, 4)], [], [.cell 0 0], [(.cell 0 1, 6), (.cell 0 2, 5), (.cell 0 3, 5)], [.cell 0 0, .cell 0 1, .cell 0 2, .cell 0 3], [], []⟩ | 1 => some ⟨[.cell 0 0], [(.cell 0 1, 6), (.cell 0 2, 5), (.cell 0 3, 5)], [(0, 4)], [], [.cell 0 0], [(.cell 0 1, 6), (.cell 0 2, 5), (.cell 0 3, 5)], [.cell 0 0, .cell 0 1, .cell 0 2, .cell 0 3], [], []⟩ | 2 => some ⟨[.cell 9 0, .cell 9 1, .cell 9 2, .cell 9 3], [(.cell 9 4, 4)], [(9, 5)], [], [.cell 9 0, .cell 9 1, .cell 9 2, .cell 9 3], [(.cell 9 4, 4)], [.cell 9 0, .cell 9 1, .cell 9 2, .cell 9 3, .cell 9 4], [], []⟩ | _ => none
def ztO (a1_1 : DV) (L116 : List DV) (M117 : List OC) : Option PX :=
  za (pBin .rem a1_1 (U8 2)) fun v118 =>
 za (yQ .i64 v118) fun v119 =>
 za (pBin .add (I6 60) v119) fun v120 =>
 za (pBin .lss (I6 (Int.ofNat (lenO (nthM M117 0)))) v120) fun v121 =>
 ifB v121
 (za (qP (nthM M117 0) (I6 0)) fun n122 =>
 za (nthO (nthM M117 0) n122) fun x123 =>
 za (pBin .quo (I6 (Int.ofNat (lenO (nthM M117 0)))) (I6 10)) fun v124 =>
 za (pBin .add (I6 48) v124) fun v125 =>
 za (yQ .u8 v125) fun v126 =>
 za (pBin .rem (I6 (Int.ofNat (lenO (nthM M117 0)))) (I6 10)) fun v127 =>
 za (pBin .add (I6 48) v127) fun v128 =>
 za (yQ .u8 v128) fun v129 =>
 za (pB2s (.lst 1 [[v126], [v129]])) fun v130 =>
 za (pStr .add (.str ⟨#[89]⟩) v130) fun v131 =>
 gd (fits 56 (lenO (nthM M117 0) + 1)) (
 some (.normal, [nthD L116 0, nthD L116 1, nthD L116 2, nthD L116 3], [some (zM (nthM M117 0) ++ [[v131, atD x123 1, atD x123 2, atD x123 3]])])))
 (some (.exit 5, [nthD L116 0, nthD L116 1, nthD L116 2, nthD L116 3], [nthM M117 0]))
def ztQ (a1_1 : DV) (L66 : List DV) (M67 : List OC) : Option PX :=
  za (pBin .rem a1_1 (U8 2)) fun v68 =>
 za (yQ .i64 v68) fun v69 =>
 za (pBin .add (I6 8) v69) fun v70 =>
 za (pBin .lss (I6 (Int.ofNat (lenO (nthM M67 1)))) v70) fun v71 =>
 ifB v71
 (za (pBin .add (I6 48) (I6 (Int.ofNat (lenO (nthM M67 1))))) fun v72 =>
 za (yQ .u8 v72) fun v73 =>
 za (pB2s (.lst 1 [[v73]])) fun v74 =>
 za (pStr .add (.str ⟨#[69]⟩) v74) fun v75 =>
 gd (fits 64 (lenO (nthM M67 1) + 1)) (
 some (.normal, [nthD L66 0], [nthM M67 0, some (zM (nthM M67 1) ++ [[v75, .bool false, I6 0, I6 0, .nils]]), nthM M67 2])))
 (some (.exit 3, [nthD L66 0], [nthM M67 0, nthM M67 1, nthM M67 2]))
def ztR (a1_1 : DV) (L36 : List DV) (M37 : List OC) : Option PX :=
  za (pBin .rem a1_1 (U8 2)) fun v38 =>
 za (yQ .i64 v38) fun v39 =>
 za (pBin .add (I6 60) v39) fun v40 =>
 za (pBin .lss (I6 (Int.ofNat (lenO (nthM M37 0)))) v40) fun v41 =>
 ifB v41
 (za (qP (nthM M37 0) (I6 0)) fun n42 =>
 za (nthO (nthM M37 0) n42) fun x43 =>
 za (pBin .quo (I6 (Int.ofNat (lenO (nthM M37 0)))) (I6 10)) fun v44 =>
 za (pBin .add (I6 48) v44) fun v45 =>
 za (yQ .u8 v45) fun v46 =>
 za (pBin .rem (I6 (Int.ofNat (lenO (nthM M37 0)))) (I6 10)) fun v47 =>
 za (pBin .add (I6 48) v47) fun v48 =>
 za (yQ .u8 v48) fun v49 =>
 za (pB2s (.lst 1 [[v46], [v49]])) fun v50 =>
 za (pStr .add (.str ⟨#[88]⟩) v50) fun v51 =>
 gd (fits 80 (lenO (nthM M37 0) + 1)) (
 some (.normal, [nthD L36 0], [some (zM (nthM M37 0) ++ [[v51, atD x43 1, atD x43 2, atD x43 3, atD x43 4, atD x43 5]]), nthM M37 1, nthM M37 2])))
 (some (.exit 1, [nthD L36 0], [nthM M37 0, nthM M37 1, nthM M37 2]))
def P35 (_O : Orc) (a0_0 a0_1 a0_2 a0_3 a1_0 a1_1 : DV) : Option DA :=
  za (j4 6 a0_1) fun e0 =>
 gd (fits 80 (lenO (some []) + (e0 : List (List DV)).length)) (
 za (j4 5 a0_2) fun e1 =>
 gd (fits 64 (lenO (some []) + (e1 : List (List DV)).length)) (
 za (j4 5 a0_3) fun e2 =>
 gd (fits 48 (lenO (some []) + (e2 : List (List DV)).length)) (
 za (yQ .i64 a1_1) fun v3 =>
 za (pBin .rem v3 (I6 (Int.ofNat (lenO (appO (some []) e0))))) fun v4 =>
 za (yQ .i64 a1_1) fun v5 =>
 za (pBin .rem v5 (I6 (Int.ofNat (lenO (appO (some []) e1))))) fun v6 =>
 za (qP (appO (some []) e1) v6) fun n7 =>
 za (nthO (appO (some []) e1) n7) fun x8 =>
 za (j4 4 (atD x8 4)) fun e9 =>
 gd (fits 56 (lenO (some []) + (e9 : List (List DV)).length)) (
 za (pBin .rem a1_0 (U8 16)) fun v10 =>
 za (pBin .eql v10 (U8 1)) fun v11 =>
 ifB v11
 (za (pBin .rem a1_1 (U8 4)) fun v12 =>
 za (qP (some [[.str ⟨#[]⟩], [.str ⟨#[55]⟩], [.str ⟨#[97, 32, 98]⟩], [.str ⟨#[70, 105, 110, 101]⟩]]) v12) fun n13 =>
 za (nthO (some [[.str ⟨#[]⟩], [.str ⟨#[55]⟩], [.str ⟨#[97, 32, 98]⟩], [.str ⟨#[70, 105, 110, 101]⟩]]) n13) fun x14 =>
 za (pBin .lss v6 (I6 (Int.ofNat (lenO (appO (some []) e1))))) fun v15 =>
 ifB v15
 (za (qP (appO (some []) e1) v6) fun n16 =>
 za (setO 5 (appO (some []) e1) n16 0 [atD x8 0, atD x8 1, atD x8 2, atD x8 3, mkL 4 (appO (some []) e9)]) fun w17 =>
 some (SA [atD x14 0, mkL 6 (appO (some []) e0), mkL 5 w17, mkL 5 (appO (some []) e2)]))
 (some (SA [atD x14 0, mkL 6 (appO (some []) e0), mkL 5 (appO (some []) e1), mkL 5 (appO (some []) e2)])))
 (za (pBin .eql v10 (U8 2)) fun v18 =>
 ifB v18
 (za (qP (appO (some []) e0) v4) fun n19 =>
 za (setO 6 (appO (some []) e0) n19 5 [.nils]) fun w20 =>
 za (pBin .lss v6 (I6 (Int.ofNat (lenO (appO (some []) e1))))) fun v21 =>
 ifB v21
 (za (qP (appO (some []) e1) v6) fun n22 =>
 za (setO 5 (appO (some []) e1) n22 0 [atD x8 0, atD x8 1, atD x8 2, atD x8 3, mkL 4 (appO (some []) e9)]) fun w23 =>
 some (SA [a0_0, mkL 6 w20, mkL 5 w23, mkL 5 (appO (some []) e2)]))
 (some (SA [a0_0, mkL 6 w20, mkL 5 (appO (some []) e1), mkL 5 (appO (some []) e2)])))
 (za (pBin .eql v10 (U8 3)) fun v24 =>
 ifB v24
 (za (pBin .rem a1_1 (U8 3)) fun v25 =>
 za (qP (some [[.str ⟨#[]⟩], [.str ⟨#[82, 48]⟩], [.str ⟨#[82, 57]⟩]]) v25) fun n26 =>
 za (nthO (some [[.str ⟨#[]⟩], [.str ⟨#[82, 48]⟩], [.str ⟨#[82, 57]⟩]]) n26) fun x27 =>
 za (qP (appO (some []) e0) v4) fun n28 =>
 za (setO 6 (appO (some []) e0) n28 0 [atD x27 0]) fun w29 =>
 za (pBin .lss v6 (I6 (Int.ofNat (lenO (appO (some []) e1))))) fun v30 =>
 ifB v30
 (za (qP (appO (some []) e1) v6) fun n31 =>
 za (setO 5 (appO (some []) e1) n31 0 [atD x8 0, atD x8 1, atD x8 2, atD x8 3, mkL 4 (appO (some []) e9)]) fun w32 =>
 some (SA [a0_0, mkL 6 w29, mkL 5 w32, mkL 5 (appO (some []) e2)]))
 (some (SA [a0_0, mkL 6 w29, mkL 5 (appO (some []) e1), mkL 5 (appO (some []) e2)])))
 (za (pBin .eql v10 (U8 4)) fun v33 =>
 ifB v33
 (xy (ya (ztR a1_1) [a0_0] [appO (some []) e0, appO (some []) e1, appO (some []) e2])
 (fun i52 L34 M35 => bif Nat.beq i52 1 then
 (za (pBin .lss v6 (I6 (Int.ofNat (lenO (nthM M35 1))))) fun v53 =>
 ifB v53
 (za (qP (nthM M35 1) v6) fun n54 =>
 za (setO 5 (nthM M35 1) n54 0 [atD x8 0, atD x8 1, atD x8 2, atD x8 3, mkL 4 (appO (some []) e9)]) fun w55 =>
 some (SA [nthD L34 0, mkL 6 (nthM M35 0), mkL 5 w55, mkL 5 (nthM M35 2)]))
 (some (SA [nthD L34 0, mkL 6 (nthM M35 0), mkL 5 (nthM M35 1), mkL 5 (nthM M35 2)])))
 else (bif Nat.beq i52 0 then
 (za (pBin .lss v6 (I6 (Int.ofNat (lenO (nthM M35 1))))) fun v56 =>
 ifB v56
 (za (qP (nthM M35 1) v6) fun n57 =>
 za (setO 5 (nthM M35 1) n57 0 [atD x8 0, atD x8 1, atD x8 2, atD x8 3, mkL 4 (appO (some []) e9)]) fun w58 =>
 some (SA [nthD L34 0, mkL 6 (nthM M35 0), mkL 5 w58, mkL 5 (nthM M35 2)]))
 (some (SA [nthD L34 0, mkL 6 (nthM M35 0), mkL 5 (nthM M35 1), mkL 5 (nthM M35 2)])))
 else (none)))
 (fun _L34 _M35 => none))
 (za (pBin .eql v10 (U8 5)) fun v59 =>
 ifB v59
 (za (pLen .nils) fun v60 =>
 za (pBin .lss v6 v60) fun v61 =>
 ifB v61
 (za (pIdx 5 .nils v6) fun _x62 =>
 none)
 (some (SA [a0_0, mkL 6 (appO (some []) e0), .nils, mkL 5 (appO (some []) e2)])))
 (za (pBin .eql v10 (U8 6)) fun v63 =>
 ifB v63
 (xy (ya (ztQ a1_1) [a0_0] [appO (some []) e0, appO (some []) e1, appO (some []) e2])
 (fun i76 L64 M65 => bif Nat.beq i76 3 then
 (za (pBin .lss v6 (I6 (Int.ofNat (lenO (nthM M65 1))))) fun v77 =>
 ifB v77
 (za (qP (nthM M65 1) v6) fun n78 =>
 za (setO 5 (nthM M65 1) n78 0 [atD x8 0, atD x8 1, atD x8 2, atD x8 3, mkL 4 (appO (some []) e9)]) fun w79 =>
 some (SA [nthD L64 0, mkL 6 (nthM M65 0), mkL 5 w79, mkL 5 (nthM M65 2)]))
 (some (SA [nthD L64 0, mkL 6 (nthM M65 0), mkL 5 (nthM M65 1), mkL 5 (nthM M65 2)])))
 else (bif Nat.beq i76 0 then
 (za (pBin .lss v6 (I6 (Int.ofNat (lenO (nthM M65 1))))) fun v80 =>
 ifB v80
 (za (qP (nthM M65 1) v6) fun n81 =>
 za (setO 5 (nthM M65 1) n81 0 [atD x8 0, atD x8 1, atD x8 2, atD x8 3, mkL 4 (appO (some []) e9)]) fun w82 =>
 some (SA [nthD L64 0, mkL 6 (nthM M65 0), mkL 5 w82, mkL 5 (nthM M65 2)]))
 (some (SA [nthD L64 0, mkL 6 (nthM M65 0), mkL 5 (nthM M65 1), mkL 5 (nthM M65 2)])))
 else (none)))
 (fun _L64 _M65 => none))
 (za (pBin .eql v10 (U8 7)) fun v83 =>
 ifB v83
 (za (pBin .rem a1_1 (U8 4)) fun v84 =>
 za (qP (some [[.str ⟨#[]⟩], [.str ⟨#[68, 48]⟩], [.str ⟨#[68, 49]⟩], [.str ⟨#[83, 111, 108, 111]⟩]]) v84) fun n85 =>
 za (nthO (some [[.str ⟨#[]⟩], [.str ⟨#[68, 48]⟩], [.str ⟨#[68, 49]⟩], [.str ⟨#[83, 111, 108, 111]⟩]]) n85) fun x86 =>
 za (pBin .lss v6 (I6 (Int.ofNat (lenO (appO (some []) e1))))) fun v87 =>
 ifB v87
 (za (qP (appO (some []) e1) v6) fun n88 =>
 za (setO 5 (appO (some []) e1) n88 0 [atD x86 0, atD x8 1, atD x8 2, atD x8 3, mkL 4 (appO (some []) e9)]) fun w89 =>
 some (SA [a0_0, mkL 6 (appO (some []) e0), mkL 5 w89, mkL 5 (appO (some []) e2)]))
 (some (SA [a0_0, mkL 6 (appO (some []) e0), mkL 5 (appO (some []) e1), mkL 5 (appO (some []) e2)])))
 (za (pBin .eql v10 (U8 8)) fun v90 =>
 ifB v90
 (za (pBin .rem a1_1 (U8 4)) fun v91 =>
 za (qP (some [[I6 (-1), I6 40], [I6 50, I6 40], [I6 0, I6 128], [I6 0, I6 127]]) v91) fun n92 =>
 za (nthO (some [[I6 (-1), I6 40], [I6 50, I6 40], [I6 0, I6 128], [I6 0, I6 127]]) n92) fun x93 =>
 za (pBin .lss v6 (I6 (Int.ofNat (lenO (appO (some []) e1))))) fun v94 =>
 ifB v94
 (za (qP (appO (some []) e1) v6) fun n95 =>
 za (setO 5 (appO (some []) e1) n95 0 [atD x8 0, atD x8 1, atD x93 0, atD x93 1, mkL 4 (appO (some []) e9)]) fun w96 =>
 some (SA [a0_0, mkL 6 (appO (some []) e0), mkL 5 w96, mkL 5 (appO (some []) e2)]))
 (some (SA [a0_0, mkL 6 (appO (some []) e0), mkL 5 (appO (some []) e1), mkL 5 (appO (some []) e2)])))
 (za (pBin .eql v10 (U8 9)) fun v97 =>
 ifB v97
 (za (pBin .gtr (I6 (Int.ofNat (lenO (appO (some []) e9)))) (I6 0)) fun v98 =>
 ifB v98
 (za (qP (appO (some []) e9) (I6 0)) fun n99 =>
 za (nthO (appO (some []) e9) n99) fun x100 =>
 za (pBin .rem a1_1 (U8 4)) fun v101 =>
 za (qP (some [[.str ⟨#[]⟩], [.str ⟨#[83, 49]⟩], [.str ⟨#[84]⟩], [.str ⟨#[83, 50]⟩]]) v101) fun n102 =>
 za (nthO (some [[.str ⟨#[]⟩], [.str ⟨#[83, 49]⟩], [.str ⟨#[84]⟩], [.str ⟨#[83, 50]⟩]]) n102) fun x103 =>
 za (qP (appO (some []) e9) (I6 0)) fun n104 =>
 za (setO 4 (appO (some []) e9) n104 0 [atD x103 0, atD x100 1, atD x100 2, atD x100 3]) fun w105 =>
 za (pBin .lss v6 (I6 (Int.ofNat (lenO (appO (some []) e1))))) fun v106 =>
 ifB v106
 (za (qP (appO (some []) e1) v6) fun n107 =>
 za (setO 5 (appO (some []) e1) n107 0 [atD x8 0, atD x8 1, atD x8 2, atD x8 3, mkL 4 w105]) fun w108 =>
 some (SA [a0_0, mkL 6 (appO (some []) e0), mkL 5 w108, mkL 5 (appO (some []) e2)]))
 (some (SA [a0_0, mkL 6 (appO (some []) e0), mkL 5 (appO (some []) e1), mkL 5 (appO (some []) e2)])))
 (za (pBin .lss v6 (I6 (Int.ofNat (lenO (appO (some []) e1))))) fun v109 =>
 ifB v109
 (za (qP (appO (some []) e1) v6) fun n110 =>
 za (setO 5 (appO (some []) e1) n110 0 [atD x8 0, atD x8 1, atD x8 2, atD x8 3, mkL 4 (appO (some []) e9)]) fun w111 =>
 some (SA [a0_0, mkL 6 (appO (some []) e0), mkL 5 w111, mkL 5 (appO (some []) e2)]))
 (some (SA [a0_0, mkL 6 (appO (some []) e0), mkL 5 (appO (some []) e1), mkL 5 (appO (some []) e2)]))))
 (za (pBin .eql v10 (U8 10)) fun v112 =>
 ifB v112
 (za (pBin .gtr (I6 (Int.ofNat (lenO (appO (some []) e9)))) (I6 0)) fun v113 =>
 ifB v113
 (xy (ya (ztO a1_1) [atD x8 0, atD x8 1, atD x8 2, atD x8 3] [appO (some []) e9])
 (fun i132 L114 M115 => bif Nat.beq i132 5 then
 (za (pBin .lss v6 (I6 (Int.ofNat (lenO (appO (some []) e1))))) fun v133 =>
 ifB v133
 (za (qP (appO (some []) e1) v6) fun n134 =>
 za (setO 5 (appO (some []) e1) n134 0 [nthD L114 0, nthD L114 1, nthD L114 2, nthD L114 3, mkL 4 (nthM M115 0)]) fun w135 =>
 some (SA [a0_0, mkL 6 (appO (some []) e0), mkL 5 w135, mkL 5 (appO (some []) e2)]))
 (some (SA [a0_0, mkL 6 (appO (some []) e0), mkL 5 (appO (some []) e1), mkL 5 (appO (some []) e2)])))
 else (bif Nat.beq i132 0 then
 (za (pBin .lss v6 (I6 (Int.ofNat (lenO (appO (some []) e1))))) fun v136 =>
 ifB v136
 (za (qP (appO (some []) e1) v6) fun n137 =>
 za (setO 5 (appO (some []) e1) n137 0 [nthD L114 0, nthD L114 1, nthD L114 2, nthD L114 3, mkL 4 (nthM M115 0)]) fun w138 =>
 some (SA [a0_0, mkL 6 (appO (some []) e0), mkL 5 w138, mkL 5 (appO (some []) e2)]))
 (some (SA [a0_0, mkL 6 (appO (some []) e0), mkL 5 (appO (some []) e1), mkL 5 (appO (some []) e2)])))
 else (none)))
 (fun _L114 _M115 => none))
 (za (pBin .lss v6 (I6 (Int.ofNat (lenO (appO (some []) e1))))) fun v139 =>
 ifB v139
 (za (qP (appO (some []) e1) v6) fun n140 =>
 za (setO 5 (appO (some []) e1) n140 0 [atD x8 0, atD x8 1, atD x8 2, atD x8 3, mkL 4 (appO (some []) e9)]) fun w141 =>
 some (SA [a0_0, mkL 6 (appO (some []) e0), mkL 5 w141, mkL 5 (appO (some []) e2)]))
 (some (SA [a0_0, mkL 6 (appO (some []) e0), mkL 5 (appO (some []) e1), mkL 5 (appO (some []) e2)]))))
 (za (pBin .eql v10 (U8 11)) fun v142 =>
 ifB v142
 (za (vwB none (some v4) (lenO (appO (some []) e0))) fun p143 =>
 za (pBin .lss v6 (I6 (Int.ofNat (lenO (appO (some []) e1))))) fun v144 =>
 ifB v144
 (za (qP (appO (some []) e1) v6) fun n145 =>
 za (setO 5 (appO (some []) e1) n145 0 [atD x8 0, atD x8 1, atD x8 2, atD x8 3, mkL 4 (appO (some []) e9)]) fun w146 =>
 some (SA [a0_0, zlZ 6 p143.1 p143.2 (mkL 6 (appO (some []) e0)), mkL 5 w146, mkL 5 (appO (some []) e2)]))
 (some (SA [a0_0, zlZ 6 p143.1 p143.2 (mkL 6 (appO (some []) e0)), mkL 5 (appO (some []) e1), mkL 5 (appO (some []) e2)])))
 (za (pBin .eql v10 (U8 12)) fun v147 =>
 ifB v147
 (za (pBin .rem a1_1 (U8 5)) fun v148 =>
 za (yQ .i64 v148) fun v149 =>
 gd (fits 48 (lenO (appO (some []) e2) + 1)) (
 za (pBin .lss v6 (I6 (Int.ofNat (lenO (appO (some []) e1))))) fun v150 =>
 ifB v150
 (za (qP (appO (some []) e1) v6) fun n151 =>
 za (setO 5 (appO (some []) e1) n151 0 [atD x8 0, atD x8 1, atD x8 2, atD x8 3, mkL 4 (appO (some []) e9)]) fun w152 =>
 some (SA [a0_0, mkL 6 (appO (some []) e0), mkL 5 w152, .lst 5 (zM (appO (some []) e2) ++ [[.str ⟨#[67, 57]⟩, v149, I6 0, I6 1, .bool false]])]))
 (some (SA [a0_0, mkL 6 (appO (some []) e0), mkL 5 (appO (some []) e1), .lst 5 (zM (appO (some []) e2) ++ [[.str ⟨#[67, 57]⟩, v149, I6 0, I6 1, .bool false]])]))))
 (za (pBin .eql v10 (U8 13)) fun v153 =>
 ifB v153
 (za (pBin .rem a1_1 (U8 3)) fun v154 =>
 za (qP (some [[.str ⟨#[]⟩], [.str ⟨#[67, 48]⟩], [.str ⟨#[68, 48]⟩]]) v154) fun n155 =>
 za (nthO (some [[.str ⟨#[]⟩], [.str ⟨#[67, 48]⟩], [.str ⟨#[68, 48]⟩]]) n155) fun x156 =>
 gd (fits 48 (lenO (appO (some []) e2) + 1)) (
 za (pBin .lss v6 (I6 (Int.ofNat (lenO (appO (some []) e1))))) fun v157 =>
 ifB v157
 (za (qP (appO (some []) e1) v6) fun n158 =>
 za (setO 5 (appO (some []) e1) n158 0 [atD x8 0, atD x8 1, atD x8 2, atD x8 3, mkL 4 (appO (some []) e9)]) fun w159 =>
 some (SA [a0_0, mkL 6 (appO (some []) e0), mkL 5 w159, .lst 5 (zM (appO (some []) e2) ++ [[atD x156 0, I6 0, I6 0, I6 1, .bool false]])]))
 (some (SA [a0_0, mkL 6 (appO (some []) e0), mkL 5 (appO (some []) e1), .lst 5 (zM (appO (some []) e2) ++ [[atD x156 0, I6 0, I6 0, I6 1, .bool false]])]))))
 (za (pBin .lss v6 (I6 (Int.ofNat (lenO (appO (some []) e1))))) fun v160 =>
 ifB v160
 (za (qP (appO (some []) e1) v6) fun n161 =>
 za (setO 5 (appO (some []) e1) n161 0 [atD x8 0, atD x8 1, atD x8 2, atD x8 3, mkL 4 (appO (some []) e9)]) fun w162 =>
 some (SA [a0_0, mkL 6 (appO (some []) e0), mkL 5 w162, mkL 5 (appO (some []) e2)]))
 (some (SA [a0_0, mkL 6 (appO (some []) e0), mkL 5 (appO (some []) e1), mkL 5 (appO (some []) e2)])))))))))))))))))))
theorem p35 (O : Orc) (a0_0 a0_1 a0_2 a0_3 a1_0 a1_1 : DV) : pF O an35 35 [SA [a0_0, a0_1, a0_2, a0_3], SA [a1_0, a1_1]] = P35 O a0_0 a0_1 a0_2 a0_3 a1_0 a1_1 := by kernel_rfl
def an36 : Nat → Option LA := fun i => match i with | 0 => some ⟨[.slot 27], [], [], [(1, 1048576)], [], [], [.slot 2], [], []⟩ | 1 => some ⟨[.slot 58], [(.slot 8, 2)], [], [(2, 1048576)], [], [(.slot 8, 2)], [.slot 2], [], []⟩ | _ => none
def zeT (O : Orc) (v26 a0_2 a0_0 a0_1 a0_3 : DV) (L29 : List DV) (M30 : List OC) : Option PX :=
  za (pBin .lss (nthD L29 0) v26) fun v31 =>
 ifB v31
 (za (pIdx 5 a0_2 (nthD L29 0)) fun x32 =>
 b1 (O 74 [S1 (atD x32 0)]) fun v33 =>
 za (pNot v33) fun v34 =>
 ifB v34
 (some (.ret, [I6 8], [some (zM (nthM M30 1))]))
 (za (eqDS (.inl 2) (.one (atD x32 0)) (.one (atD x32 0))) fun _q35 =>
 za (zdd (.inl 2) 1048576 (.one (atD x32 0)) (zM (nthM M30 1))) fun r36 =>
 ifB (dsO (lkD (.one (.bool false)) r36))
 (za (pBin .neq (I6 9) (I6 0)) fun v37 =>
 ifB v37
 (some (.ret, [I6 9], [some (zM (nthM M30 1))]))
 (b1 (O 77 [SA [a0_0, a0_1, a0_2, a0_3], SA [atD x32 0, atD x32 1, atD x32 2, atD x32 3, atD x32 4]]) fun v38 =>
 za (pBin .neq v38 (I6 0)) fun v39 =>
 ifB v39
 (some (.ret, [v38], [some (zM (nthM M30 1))]))
 (gd (fits 16 (lenO (nthM M30 0) + 1)) (
 za (pBin .add (nthD L29 0) (I6 1)) fun v40 =>
 some (.normal, [v40], [some (zM (nthM M30 0) ++ [[atD x32 2, atD x32 3]]), some (zM (nthM M30 1))])))))
 (za (eqDS (.inl 2) (.one (atD x32 0)) (.one (atD x32 0))) fun _q41 =>
 za (putP (.inl 2) 1048576 (.one (atD x32 0)) [atD x32 0, .bool true] (zM (nthM M30 1))) fun e42 =>
 za (pBin .neq (I6 0) (I6 0)) fun v43 =>
 ifB v43
 (some (.ret, [I6 0], [some e42]))
 (b1 (O 77 [SA [a0_0, a0_1, a0_2, a0_3], SA [atD x32 0, atD x32 1, atD x32 2, atD x32 3, atD x32 4]]) fun v44 =>
 za (pBin .neq v44 (I6 0)) fun v45 =>
 ifB v45
 (some (.ret, [v44], [some e42]))
 (gd (fits 16 (lenO (nthM M30 0) + 1)) (
 za (pBin .add (nthD L29 0) (I6 1)) fun v46 =>
 some (.normal, [v46], [some (zM (nthM M30 0) ++ [[atD x32 2, atD x32 3]]), some e42])))))))
 (some (.exit 4, [], [nthM M30 0, some (zM (nthM M30 1))]))
def zlk (O : Orc) (v4 a0_1 : DV) (L7 : List DV) (M8 : List OC) : Option PX :=
  za (pBin .lss (nthD L7 0) v4) fun v9 =>
 ifB v9
 (za (pIdx 6 a0_1 (nthD L7 0)) fun x10 =>
 b1 (O 75 [SA [atD x10 0, atD x10 1, atD x10 2, atD x10 3, atD x10 4, atD x10 5]]) fun v11 =>
 za (pBin .neq v11 (I6 0)) fun v12 =>
 ifB v12
 (some (.ret, [v11], [some (zM (nthM M8 0))]))
 (za (eqDS (.inl 2) (.one (atD x10 0)) (.one (atD x10 0))) fun _q13 =>
 za (zdd (.inl 2) 1048576 (.one (atD x10 0)) (zM (nthM M8 0))) fun r14 =>
 ifB (dsO (lkD (.one (.bool false)) r14))
 (za (pBin .neq (I6 9) (I6 0)) fun v15 =>
 ifB v15
 (some (.ret, [I6 9], [some (zM (nthM M8 0))]))
 (za (pBin .add (nthD L7 0) (I6 1)) fun v16 =>
 some (.normal, [v16], [some (zM (nthM M8 0))])))
 (za (eqDS (.inl 2) (.one (atD x10 0)) (.one (atD x10 0))) fun _q17 =>
 za (putP (.inl 2) 1048576 (.one (atD x10 0)) [atD x10 0, .bool true] (zM (nthM M8 0))) fun e18 =>
 za (pBin .neq (I6 0) (I6 0)) fun v19 =>
 ifB v19
 (some (.ret, [I6 0], [some e18]))
 (za (pBin .add (nthD L7 0) (I6 1)) fun v20 =>
 some (.normal, [v20], [some e18])))))
 (some (.exit 1, [], [some (zM (nthM M8 0))]))
def P36 (O : Orc) (a0_0 a0_1 a0_2 a0_3 : DV) : Option DA :=
  b1 (O 74 [S1 a0_0]) fun v0 =>
 za (pNot v0) fun v1 =>
 ifB v1
 (some (S1 (I6 8)))
 (za (pLen a0_1) fun v2 =>
 za (pBin .gtr v2 (I6 60)) fun v3 =>
 ifB v3
 (some (S1 (I6 4)))
 (za (pLen a0_1) fun v4 =>
 xy (ya (zlk O v4 a0_1) [I6 0] [some []])
 (fun i21 _L5 _M6 => bif Nat.beq i21 1 then
 (za (pLen a0_2) fun v22 =>
 za (pBin .eql v22 (I6 0)) fun v23 =>
 ifB v23
 (some (S1 (I6 13)))
 (za (pLen a0_2) fun v24 =>
 za (pBin .gtr v24 (I6 8)) fun v25 =>
 ifB v25
 (some (S1 (I6 4)))
 (za (pLen a0_2) fun v26 =>
 xy (ya (zeT O v26 a0_2 a0_0 a0_1 a0_3) [I6 0] [none, some []])
 (fun i47 _L27 M28 => bif Nat.beq i47 4 then
 (b1s (O 78 [S1 (mkL 2 (nthM M28 0)), S1 a0_3]) fun v48 =>
 some (S1 v48))
 else (none))
 (fun L27 _M28 => some (S1 (nthD L27 0))))))
 else (none))
 (fun L5 _M6 => some (S1 (nthD L5 0)))))
theorem p36 (O : Orc) (a0_0 a0_1 a0_2 a0_3 : DV) : pF O an36 36 [SA [a0_0, a0_1, a0_2, a0_3]] = P36 O a0_0 a0_1 a0_2 a0_3 := by kernel_rfl
def an37 : Nat → Option LA := fun i => match i with | 0 => some ⟨[.slot 32, .cell 1 1, .cell 1 2], [(.slot 5, 2), (.cell 1 0, 1)], [(1, 3)], [], [.cell 1 1, .cell 1 2], [(.slot 5, 2), (.cell 1 0, 1)], [.slot 5, .slot 6, .cell 1 0, .cell 1 1, .cell 1 2], [], []⟩ | 1 => some ⟨[.slot 45], [(.slot 11, 1)], [], [], [], [(.slot 11, 1)], [], [], []⟩ | _ => none
def zuj (v13 : DV) (g2 L8 : List DV) (a1 : DV) (x11 : List DV) (L16 : List DV) (M17 : List OC) : Option PX :=
  za (pBin .lss (nthD L16 0) v13) fun v18 =>
 ifB v18
 (za (pIdx 1 (atD g2 0) (nthD L8 0)) fun x19 =>
 za (pBin .add (atD x19 0) (nthD L16 0)) fun v20 =>
 za (pIdx 1 a1 v20) fun x21 =>
 ifB (atD x21 0)
 (za (pBin .add (atD x11 2) (nthD L16 0)) fun v22 =>
 gd (fits 8 (lenO (nthM M17 0) + 1)) (
 za (pBin .add (nthD L16 0) (I6 1)) fun v23 =>
 some (.normal, [v23], [some (zM (nthM M17 0) ++ [[v22]])])))
 (za (pBin .add (nthD L16 0) (I6 1)) fun v24 =>
 some (.normal, [v24], [nthM M17 0])))
 (some (.exit 2, [], [nthM M17 0]))
def zuu (O : Orc) (v5 a0_2 : DV) (g2 : List DV) (a1 : DV) (L8 : List DV) (M9 : List OC) : Option PX :=
  za (pBin .lss (nthD L8 0) v5) fun v10 =>
 ifB v10
 (za (pIdx 5 a0_2 (nthD L8 0)) fun x11 =>
 za (pBin .sub (atD x11 3) (atD x11 2)) fun v12 =>
 za (pBin .add v12 (I6 1)) fun v13 =>
 xy (ya (zuj v13 g2 L8 a1 x11) [I6 0] [none])
 (fun i25 _L14 M15 => bif Nat.beq i25 2 then
 (bT [some 2, none] (O 79 [S1 (mkL 1 (nthM M15 0))]) fun t26 =>
 za (pBin .neq (dsO (dsAt t26 1)) (I6 0)) fun v27 =>
 ifB v27
 (some (.ret, [.nils, dsO (dsAt t26 1), .nils, U64 0, U64 0], []))
 (gd (fits 16 (lenO (nthM M9 0) + 1)) (
 za (pIdx 1 (atD g2 1) (nthD L8 0)) fun x28 =>
 za (pIdx 1 (atD g2 1) (nthD L8 0)) fun x29 =>
 za (pLen (atD x11 4)) fun v30 =>
 za (pBin .add (atD x29 0) v30) fun v31 =>
 za (uw 1 a1 (some (atD x28 0)) (some v31)) fun v32 =>
 b1 (O 80 [S1 v32]) fun v33 =>
 gd (fits 8 (lenO (nthM M9 1) + 1)) (
 za (pBin .add (nthD L8 0) (I6 1)) fun v34 =>
 some (.normal, [v34, nthD L8 1, nthD L8 2], [some (zM (nthM M9 0) ++ [[atD (dsA (dsAt t26 0)) 0, atD (dsA (dsAt t26 0)) 1]]), some (zM (nthM M9 1) ++ [[v33]])])))))
 else (bif Nat.beq i25 1 then
 (za (pBin .add (nthD L8 0) (I6 1)) fun v35 =>
 some (.normal, [v35, nthD L8 1, nthD L8 2], [nthM M9 0, nthM M9 1]))
 else (some (.exit i25, [nthD L8 1, nthD L8 2], [nthM M9 0, nthM M9 1]))))
 (fun _L14 _M15 => none))
 (some (.exit 0, [nthD L8 1, nthD L8 2], [nthM M9 0, nthM M9 1]))
def P37 (O : Orc) (a0_0 a0_1 a0_2 a0_3 a1 : DV) : Option DA :=
  b1 (O 36 [SA [a0_0, a0_1, a0_2, a0_3]]) fun v0 =>
 za (pBin .neq v0 (I6 0)) fun v1 =>
 ifB v1
 (some (.tup [.agg [.nils, U64 0, U64 0], .one .nils, .one v0]))
 (bA 5 (O 68 [SA [a0_0, a0_1, a0_2, a0_3]]) fun g2 =>
 za (pLen a1) fun v3 =>
 za (pBin .neq v3 (atD g2 4)) fun v4 =>
 ifB v4
 (some (.tup [.agg [.nils, U64 0, U64 0], .one .nils, .one (I6 5)]))
 (za (pLen a0_2) fun v5 =>
 xy (ya (zuu O v5 a0_2 g2 a1) [I6 0, U64 0, U64 0] [none, none])
 (fun i36 _L6 M7 => bif Nat.beq i36 0 then
 (za (uw 1 a1 (some (atD g2 2)) (some (atD g2 3))) fun v37 =>
 b1 (O 80 [S1 v37]) fun v38 =>
 za (uw 1 a1 (some (atD g2 3)) none) fun v39 =>
 b1 (O 80 [S1 v39]) fun v40 =>
 some (.tup [.agg [mkL 1 (nthM M7 1), v38, v40], .one (mkL 2 (nthM M7 0)), .one (I6 0)]))
 else (none))
 (fun L6 _M7 => some (.tup [.agg [nthD L6 2, nthD L6 3, nthD L6 4], .one (nthD L6 0), .one (nthD L6 1)]))))
theorem p37 (O : Orc) (a0_0 a0_1 a0_2 a0_3 a1 : DV) : pF O an37 37 [SA [a0_0, a0_1, a0_2, a0_3], S1 a1] = P37 O a0_0 a0_1 a0_2 a0_3 a1 := by kernel_rfl
def P38 (O : Orc) (a0_0 a0_1 a0_2 a0_3 : DV) : Option DA :=
  b1 (O 36 [SA [a0_0, a0_1, a0_2, a0_3]]) fun v0 =>
 za (pBin .neq v0 (I6 0)) fun v1 =>
 ifB v1
 (some (.tup [.agg [.nils, .nils], .one v0]))
 (bT [none, none] (O 81 [SA [a0_0, a0_1, a0_2, a0_3]]) fun t2 =>
 za (pBin .neq (dsO (dsAt t2 1)) (I6 0)) fun v3 =>
 ifB v3
 (some (.tup [.agg [.nils, .nils], .one (dsO (dsAt t2 1))]))
 (b1 (O 82 [SA [a0_0, a0_1, a0_2, a0_3], S1 (dsO (dsAt t2 0))]) fun v4 =>
 za (pBin .gtr v4 (I6 50000)) fun v5 =>
 ifB v5
 (some (.tup [.agg [.nils, .nils], .one (I6 4)]))
 (bA 5 (O 68 [SA [a0_0, a0_1, a0_2, a0_3]]) fun _g6 =>
 none)))
theorem p38 (O : Orc) (a0_0 a0_1 a0_2 a0_3 : DV) : pF O an0 38 [SA [a0_0, a0_1, a0_2, a0_3]] = P38 O a0_0 a0_1 a0_2 a0_3 := by kernel_rfl
def an39 : Nat → Option LA := fun i => match i with | 0 => some ⟨[.slot 69, .cell 4 0, .cell 4 1], [(.cell 4 2, 3)], [(4, 3)], [], [.cell 4 0, .cell 4 1], [(.cell 4 2, 3)], [.cell 4 0, .cell 4 1, .cell 4 2], [], []⟩ | 1 => some ⟨[.slot 104, .cell 8 0, .cell 8 1], [(.cell 8 2, 3)], [(8, 3)], [], [.cell 8 0, .cell 8 1], [(.cell 8 2, 3)], [.cell 8 0, .cell 8 1, .cell 8 2], [], []⟩ | _ => none
def zug (O : Orc) (v41 : DV) (x18 g11 : List DV) (L44 : List DV) (M45 : List OC) : Option PX :=
  za (pBin .lss (nthD L44 0) v41) fun v46 =>
 ifB v46
 (za (pIdx 1 (atD x18 2) (nthD L44 0)) fun x47 =>
 za (pBin .add (atD g11 2) (atD x47 0)) fun v48 =>
 bA 3 (O 89 [S1 v48]) fun g49 =>
 gd (fits 40 (lenO (nthM M45 0) + 1)) (
 za (pBin .add (nthD L44 0) (I6 1)) fun v50 =>
 some (.normal, [v50, nthD L44 1, nthD L44 2], [some (zM (nthM M45 0) ++ [[atD g49 0, atD g49 1, atD g49 2]])])))
 (some (.exit 2, [nthD L44 1, nthD L44 2], [nthM M45 0]))
def zuh (O : Orc) (v25 : DV) (x18 g11 : List DV) (L28 : List DV) (M29 : List OC) : Option PX :=
  za (pBin .lss (nthD L28 0) v25) fun v30 =>
 ifB v30
 (za (pIdx 1 (atD x18 2) (nthD L28 0)) fun x31 =>
 za (pBin .add (atD g11 2) (atD x31 0)) fun v32 =>
 bA 3 (O 89 [S1 v32]) fun g33 =>
 gd (fits 40 (lenO (nthM M29 0) + 1)) (
 za (pBin .add (nthD L28 0) (I6 1)) fun v34 =>
 some (.normal, [v34, nthD L28 1, nthD L28 2], [some (zM (nthM M29 0) ++ [[atD g33 0, atD g33 1, atD g33 2]])])))
 (some (.exit 2, [nthD L28 1, nthD L28 2], [nthM M29 0]))
def zui (O : Orc) (v12 : DV) (t9 : List DS) (g11 : List DV) (a0_0 a0_1 a0_2 a0_3 : DV) (L15 : List DV) (M16 : List OC) : Option PX :=
  za (pBin .lss (nthD L15 0) v12) fun v17 =>
 ifB v17
 (za (pIdx 6 (dsO (dsAt t9 0)) (nthD L15 0)) fun x18 =>
 b1 (O 87 [SA [atD g11 0, atD g11 1, atD g11 2, atD g11 3, atD g11 4], SA [a0_0, a0_1, a0_2, a0_3], SA [atD x18 0, atD x18 1]]) fun v19 =>
 bA 3 (O 89 [S1 v19]) fun g20 =>
 za (pLen (atD x18 2)) fun v21 =>
 za (pBin .eql v21 (I6 0)) fun v22 =>
 ifB v22
 (za (pBin .add (atD g11 3) (atD x18 0)) fun v23 =>
 bA 3 (O 89 [S1 v23]) fun g24 =>
 gd (fits 40 (lenO (some [[atD g20 0, atD g20 1, atD g20 2]]) + 1)) (
 za (pLen (atD x18 2)) fun v25 =>
 xy (ya (zuh O v25 x18 g11) [I6 0, I6 3, I6 0] [some (zM (some [[atD g20 0, atD g20 1, atD g20 2]]) ++ [[I6 2, I6 0, .lst 3 [[atD g24 0, atD g24 1, atD g24 2]]]])])
 (fun i35 L26 M27 => bif Nat.beq i35 2 then
 (za (pIdx 1 (atD g11 1) (atD x18 3)) fun x36 =>
 za (pBin .add (atD x36 0) (atD x18 5)) fun v37 =>
 bA 3 (O 89 [S1 v37]) fun g38 =>
 gd (fits 40 (lenO (nthM M27 0) + 1)) (
 gd (fits 40 (lenO (nthM M16 0) + 1)) (
 za (pBin .add (nthD L15 0) (I6 1)) fun v39 =>
 some (.normal, [v39, nthD L15 1, nthD L15 2], [some (zM (nthM M16 0) ++ [[nthD L26 0, nthD L26 1, .lst 3 (zM (nthM M27 0) ++ [[atD g38 0, atD g38 1, atD g38 2]])]])]))))
 else (bif Nat.beq i35 1 then
 (za (pBin .add (nthD L15 0) (I6 1)) fun v40 =>
 some (.normal, [v40, nthD L15 1, nthD L15 2], [nthM M16 0]))
 else (some (.exit i35, [nthD L15 1, nthD L15 2], [nthM M16 0]))))
 (fun _L26 _M27 => none)))
 (za (pLen (atD x18 2)) fun v41 =>
 xy (ya (zug O v41 x18 g11) [I6 0, I6 3, I6 0] [some [[atD g20 0, atD g20 1, atD g20 2]]])
 (fun i51 L42 M43 => bif Nat.beq i51 2 then
 (za (pIdx 1 (atD g11 1) (atD x18 3)) fun x52 =>
 za (pBin .add (atD x52 0) (atD x18 5)) fun v53 =>
 bA 3 (O 89 [S1 v53]) fun g54 =>
 gd (fits 40 (lenO (nthM M43 0) + 1)) (
 gd (fits 40 (lenO (nthM M16 0) + 1)) (
 za (pBin .add (nthD L15 0) (I6 1)) fun v55 =>
 some (.normal, [v55, nthD L15 1, nthD L15 2], [some (zM (nthM M16 0) ++ [[nthD L42 0, nthD L42 1, .lst 3 (zM (nthM M43 0) ++ [[atD g54 0, atD g54 1, atD g54 2]])]])]))))
 else (bif Nat.beq i51 1 then
 (za (pBin .add (nthD L15 0) (I6 1)) fun v56 =>
 some (.normal, [v56, nthD L15 1, nthD L15 2], [nthM M16 0]))
 else (some (.exit i51, [nthD L15 1, nthD L15 2], [nthM M16 0]))))
 (fun _L42 _M43 => none)))
 (some (.exit 0, [nthD L15 1, nthD L15 2], [nthM M16 0]))
def P39 (O : Orc) (a0_0 a0_1 a0_2 a0_3 a1_0 a1_1 : DV) : Option DA :=
  b1 (O 36 [SA [a0_0, a0_1, a0_2, a0_3]]) fun v0 =>
 za (pBin .neq v0 (I6 0)) fun v1 =>
 ifB v1
 (some (.tup [.agg [I6 0, I6 0, .nils], .one v0]))
 (za (pBin .lss a1_0 (I6 0)) fun v2 =>
 ifB v2
 (some (.tup [.agg [I6 0, I6 0, .nils], .one (I6 10)]))
 (za (pLen a0_1) fun v3 =>
 za (pBin .geq a1_0 v3) fun v4 =>
 ifB v4
 (some (.tup [.agg [I6 0, I6 0, .nils], .one (I6 10)]))
 (za (pBin .lss a1_1 (I6 0)) fun v5 =>
 ifB v5
 (some (.tup [.agg [I6 0, I6 0, .nils], .one (I6 10)]))
 (za (pIdx 6 a0_1 a1_0) fun x6 =>
 za (pLen (atD x6 5)) fun v7 =>
 za (pBin .geq a1_1 v7) fun v8 =>
 ifB v8
 (some (.tup [.agg [I6 0, I6 0, .nils], .one (I6 10)]))
 (bT [none, none] (O 88 [SA [a0_0, a0_1, a0_2, a0_3], SA [a1_0, a1_1]]) fun t9 =>
 za (pBin .neq (dsO (dsAt t9 1)) (I6 0)) fun v10 =>
 ifB v10
 (some (.tup [.agg [I6 0, I6 0, .nils], .one (dsO (dsAt t9 1))]))
 (bA 5 (O 68 [SA [a0_0, a0_1, a0_2, a0_3]]) fun g11 =>
 za (pLen (dsO (dsAt t9 0))) fun v12 =>
 xy (ya (zui O v12 t9 g11 a0_0 a0_1 a0_2 a0_3) [I6 0, I6 4, I6 0] [none])
 (fun i57 L13 M14 => bif Nat.beq i57 0 then
 (b1s (O 90 [SA [nthD L13 0, nthD L13 1, mkL 3 (nthM M14 0)]]) fun v58 =>
 za (pBin .neq v58 (I6 0)) fun v59 =>
 ifB v59
 (some (.tup [.agg [I6 0, I6 0, .nils], .one v58]))
 (some (.tup [.agg [nthD L13 0, nthD L13 1, mkL 3 (nthM M14 0)], .one (I6 0)])))
 else (none))
 (fun _L13 _M14 => none)))))))
theorem p39 (O : Orc) (a0_0 a0_1 a0_2 a0_3 a1_0 a1_1 : DV) : pF O an39 39 [SA [a0_0, a0_1, a0_2, a0_3], SA [a1_0, a1_1]] = P39 O a0_0 a0_1 a0_2 a0_3 a1_0 a1_1 := by kernel_rfl
def an48 : Nat → Option LA := fun i => match i with | 0 => some ⟨[.slot 6, .cell 4 0, .cell 4 1, .cell 4 2, .cell 4 3, .cell 4 4], [(.cell 4 5, 1)], [(4, 6)], [], [.cell 4 0, .cell 4 1, .cell 4 2, .cell 4 3, .cell 4 4], [(.cell 4 5, 1)], [.cell 4 0, .cell 4 1, .cell 4 2, .cell 4 3, .cell 4 4, .cell 4 5], [], []⟩ | _ => none
def zeS (a0_3 a0_4 a0_5 a0_6 a0_7 a0_8 : DV) (L12 : List DV) (M13 : List OC) : Option PX :=
  za (pBin .rem a0_3 (U8 25)) fun v14 =>
 za (yQ .i64 v14) fun v15 =>
 za (pBin .add (I6 1) v15) fun v16 =>
 za (pBin .lss (nthD L12 0) v16) fun v17 =>
 ifB v17
 (za (pBin .rem (nthD L12 0) (I6 5)) fun v18 =>
 za (qQ 5 v18) fun n19 =>
 za (yQ .i64 (atD [a0_4, a0_5, a0_6, a0_7, a0_8] n19)) fun v20 =>
 gd (fits 8 (lenO (nthM M13 0) + 1)) (
 za (pBin .add (nthD L12 0) (I6 1)) fun v21 =>
 some (.normal, [v21, nthD L12 1, nthD L12 2, nthD L12 3, nthD L12 4, nthD L12 5], [some (zM (nthM M13 0) ++ [[v20]])])))
 (some (.exit 0, [nthD L12 1, nthD L12 2, nthD L12 3, nthD L12 4, nthD L12 5], [nthM M13 0]))
def P48 (O : Orc) (a0_0 a0_1 a0_2 a0_3 a0_4 a0_5 a0_6 a0_7 a0_8 a1 : DV) : Option DA :=
  za (pBin .rem a1 (I6 10)) fun v0 =>
 za (pBin .add (I6 48) v0) fun v1 =>
 za (yQ .u8 v1) fun v2 =>
 za (pB2s (.lst 1 [[v2]])) fun v3 =>
 za (pStr .add (.str ⟨#[82]⟩) v3) fun v4 =>
 za (pBin .rem a0_0 (U8 3)) fun v5 =>
 za (qP (some [[.str ⟨#[79, 112, 101, 110]⟩], [.str ⟨#[70, 108, 117, 116, 101]⟩], [.str ⟨#[82, 101, 101, 100]⟩]]) v5) fun n6 =>
 za (nthO (some [[.str ⟨#[79, 112, 101, 110]⟩], [.str ⟨#[70, 108, 117, 116, 101]⟩], [.str ⟨#[82, 101, 101, 100]⟩]]) n6) fun x7 =>
 bA 2 (O 100 [S1 a0_1]) fun g8 =>
 za (yQ .i64 a0_2) fun v9 =>
 xy (ya (zeS a0_3 a0_4 a0_5 a0_6 a0_7 a0_8) [I6 0, v4, atD x7 0, atD g8 0, atD g8 1, v9] [none])
 (fun i22 L10 M11 => bif Nat.beq i22 0 then
 (some (SA [nthD L10 0, nthD L10 1, nthD L10 2, nthD L10 3, nthD L10 4, mkL 1 (nthM M11 0)]))
 else (none))
 (fun _L10 _M11 => none)
theorem p48 (O : Orc) (a0_0 a0_1 a0_2 a0_3 a0_4 a0_5 a0_6 a0_7 a0_8 a1 : DV) : pF O an48 48 [SA [a0_0, a0_1, a0_2, a0_3, a0_4, a0_5, a0_6, a0_7, a0_8], S1 a1] = P48 O a0_0 a0_1 a0_2 a0_3 a0_4 a0_5 a0_6 a0_7 a0_8 a1 := by kernel_rfl
def P49 (O : Orc) (a0 a1_0 a1_1 a2_0 a2_1 a2_2 a2_3 a3 : DV) : Option DA :=
  za (yQ .i64 a2_0) fun v0 =>
 za (pLen a0) fun v1 =>
 za (pBin .rem v0 v1) fun v2 =>
 za (pBin .add (I6 48) a3) fun v3 =>
 za (yQ .u8 v3) fun v4 =>
 za (pB2s (.lst 1 [[v4]])) fun v5 =>
 za (pStr .add (.str ⟨#[83]⟩) v5) fun v6 =>
 bA 2 (O 101 [S1 a2_1]) fun g7 =>
 za (pIdx 6 a0 v2) fun x8 =>
 bT [none, none] (O 102 [SA [atD g7 0, atD g7 1], SA [atD x8 2, atD x8 3]]) fun t9 =>
 za (yQ .i64 a2_3) fun v10 =>
 za (pBin .sub a1_1 a1_0) fun v11 =>
 za (pBin .add v11 (I6 1)) fun v12 =>
 za (pBin .rem v10 v12) fun v13 =>
 za (pBin .add a1_0 v13) fun v14 =>
 za (pBin .rem a2_2 (U8 6)) fun v15 =>
 za (pBin .eql v15 (U8 2)) fun v16 =>
 ifB v16
 (za (pBin .add (dsO (dsAt t9 0)) (I6 7)) fun v17 =>
 some (SA [v6, atD g7 0, atD g7 1, .lst 3 [[a1_0, a1_1, .lst 2 [[v2, dsO (dsAt t9 0)], [v2, v17]]]]]))
 (za (pBin .eql v15 (U8 3)) fun v18 =>
 ifB v18
 (za (pBin .sub (dsO (dsAt t9 0)) (I6 12)) fun v19 =>
 za (pBin .rem a2_2 (U8 6)) fun v20 =>
 za (pBin .eql v20 (U8 3)) fun v21 =>
 ifB v21
 (za (pBin .add v2 (I6 1)) fun v22 =>
 za (pLen a0) fun v23 =>
 za (pBin .rem v22 v23) fun v24 =>
 za (pIdx 6 a0 v24) fun x25 =>
 bT [none, none] (O 102 [SA [atD g7 0, atD g7 1], SA [atD x25 2, atD x25 3]]) fun t26 =>
 za (pBin .gtr v14 a1_0) fun v27 =>
 ifB v27
 (za (pBin .sub v14 (I6 1)) fun v28 =>
 gd (fits 40 1) (
 gd (fits 40 (lenO (some (zM none ++ [[a1_0, v28, .lst 2 [[v2, dsO (dsAt t9 0)]]]])) + 1)) (
 some (SA [v6, atD g7 0, atD g7 1, .lst 3 (zM (some (zM none ++ [[a1_0, v28, .lst 2 [[v2, dsO (dsAt t9 0)]]]])) ++ [[v14, a1_1, .lst 2 [[v24, dsO (dsAt t26 0)]]]])]))))
 (gd (fits 40 1) (
 some (SA [v6, atD g7 0, atD g7 1, .lst 3 (zM none ++ [[v14, a1_1, .lst 2 [[v24, dsO (dsAt t26 0)]]]])]))))
 (za (pBin .gtr v14 a1_0) fun v29 =>
 ifB v29
 (za (pBin .sub v14 (I6 1)) fun v30 =>
 gd (fits 40 1) (
 gd (fits 40 (lenO (some (zM none ++ [[a1_0, v30, .lst 2 [[v2, dsO (dsAt t9 0)]]]])) + 1)) (
 some (SA [v6, atD g7 0, atD g7 1, .lst 3 (zM (some (zM none ++ [[a1_0, v30, .lst 2 [[v2, dsO (dsAt t9 0)]]]])) ++ [[v14, a1_1, .lst 2 [[v2, v19]]]])]))))
 (gd (fits 40 1) (
 some (SA [v6, atD g7 0, atD g7 1, .lst 3 (zM none ++ [[v14, a1_1, .lst 2 [[v2, v19]]]])])))))
 (za (pBin .eql v15 (U8 4)) fun v31 =>
 ifB v31
 (za (pBin .sub (dsO (dsAt t9 0)) (I6 12)) fun v32 =>
 za (pBin .rem a2_2 (U8 6)) fun v33 =>
 za (pBin .eql v33 (U8 3)) fun v34 =>
 ifB v34
 (za (pBin .add v2 (I6 1)) fun v35 =>
 za (pLen a0) fun v36 =>
 za (pBin .rem v35 v36) fun v37 =>
 za (pIdx 6 a0 v37) fun x38 =>
 bT [none, none] (O 102 [SA [atD g7 0, atD g7 1], SA [atD x38 2, atD x38 3]]) fun t39 =>
 za (pBin .gtr v14 a1_0) fun v40 =>
 ifB v40
 (za (pBin .sub v14 (I6 1)) fun v41 =>
 gd (fits 40 1) (
 gd (fits 40 (lenO (some (zM none ++ [[a1_0, v41, .lst 2 [[v2, dsO (dsAt t9 0)]]]])) + 1)) (
 some (SA [v6, atD g7 0, atD g7 1, .lst 3 (zM (some (zM none ++ [[a1_0, v41, .lst 2 [[v2, dsO (dsAt t9 0)]]]])) ++ [[v14, a1_1, .lst 2 [[v37, dsO (dsAt t39 0)]]]])]))))
 (gd (fits 40 1) (
 some (SA [v6, atD g7 0, atD g7 1, .lst 3 (zM none ++ [[v14, a1_1, .lst 2 [[v37, dsO (dsAt t39 0)]]]])]))))
 (za (pBin .gtr v14 a1_0) fun v42 =>
 ifB v42
 (za (pBin .sub v14 (I6 1)) fun v43 =>
 gd (fits 40 1) (
 gd (fits 40 (lenO (some (zM none ++ [[a1_0, v43, .lst 2 [[v2, dsO (dsAt t9 0)]]]])) + 1)) (
 some (SA [v6, atD g7 0, atD g7 1, .lst 3 (zM (some (zM none ++ [[a1_0, v43, .lst 2 [[v2, dsO (dsAt t9 0)]]]])) ++ [[v14, a1_1, .lst 2 [[v2, v32]]]])]))))
 (gd (fits 40 1) (
 some (SA [v6, atD g7 0, atD g7 1, .lst 3 (zM none ++ [[v14, a1_1, .lst 2 [[v2, v32]]]])])))))
 (za (pBin .eql v15 (U8 5)) fun v44 =>
 ifB v44
 (some (SA [v6, atD g7 0, atD g7 1, .lst 3 [[v14, a1_1, .lst 2 [[v2, dsO (dsAt t9 0)]]]]]))
 (some (SA [v6, atD g7 0, atD g7 1, .lst 3 [[a1_0, a1_1, .lst 2 [[v2, dsO (dsAt t9 0)]]]]])))))
theorem p49 (O : Orc) (a0 a1_0 a1_1 a2_0 a2_1 a2_2 a2_3 a3 : DV) : pF O an0 49 [S1 a0, SA [a1_0, a1_1], SA [a2_0, a2_1, a2_2, a2_3], S1 a3] = P49 O a0 a1_0 a1_1 a2_0 a2_1 a2_2 a2_3 a3 := by kernel_rfl
def an72 : Nat → Option LA := fun i => match i with | 0 => some ⟨[.slot 24], [], [], [], [], [], [.slot 4], [], []⟩ | _ => none
def zut (O : Orc) (v5 a0_2 a1 : DV) (L8 : List DV) (_M9 : List OC) : Option PX :=
  za (pBin .lss (nthD L8 0) v5) fun v10 =>
 ifB v10
 (za (pIdx 5 a0_2 (nthD L8 0)) fun x11 =>
 bT [some 2, none] (O 125 [SA [atD x11 2, atD x11 3]]) fun t12 =>
 za (pIdx 2 a1 (nthD L8 0)) fun x13 =>
 b1 (O 126 [SA [atD x13 0, atD x13 1], SA [atD (dsA (dsAt t12 0)) 0, atD (dsA (dsAt t12 0)) 1]]) fun v14 =>
 za (pNot v14) fun v15 =>
 ifB v15
 (some (.ret, [I6 23], []))
 (za (pBin .add (nthD L8 0) (I6 1)) fun v16 =>
 some (.normal, [v16], [])))
 (some (.exit 0, [], []))
def P72 (O : Orc) (a0_0 a0_1 a0_2 a0_3 a1 : DV) : Option DA :=
  b1 (O 36 [SA [a0_0, a0_1, a0_2, a0_3]]) fun v0 =>
 za (pBin .neq v0 (I6 0)) fun v1 =>
 ifB v1
 (some (S1 v0))
 (za (pLen a1) fun v2 =>
 za (pLen a0_2) fun v3 =>
 za (pBin .neq v2 v3) fun v4 =>
 ifB v4
 (some (S1 (I6 5)))
 (za (pLen a0_2) fun v5 =>
 xy (ya (zut O v5 a0_2 a1) [I6 0] [])
 (fun i17 _L6 _M7 => bif Nat.beq i17 0 then
 (some (S1 (I6 0)))
 else (none))
 (fun L6 _M7 => some (S1 (nthD L6 0)))))
theorem p72 (O : Orc) (a0_0 a0_1 a0_2 a0_3 a1 : DV) : pF O an72 72 [SA [a0_0, a0_1, a0_2, a0_3], S1 a1] = P72 O a0_0 a0_1 a0_2 a0_3 a1 := by kernel_rfl
def an74 : Nat → Option LA := fun i => match i with | 0 => some ⟨[.slot 3], [], [], [], [], [], [.slot 2], [], []⟩ | _ => none
def zli (O : Orc) (a0 : DV) (L8 : List DV) (_M9 : List OC) : Option PX :=
  za (zh8 a0) fun v10 =>
 za (pBin .lss (nthD L8 0) v10) fun v11 =>
 ifB v11
 (za (qx a0 (nthD L8 0)) fun v12 =>
 b1 (O 129 [S1 v12]) fun v13 =>
 za (pNot v13) fun v14 =>
 ifB v14
 (za (pBin .lss v12 (U8 48)) fun v15 =>
 ifB v15
 (za (pBin .neq v12 (U8 95)) fun v16 =>
 ifB v16
 (some (.ret, [.bool false], []))
 (za (pBin .add (nthD L8 0) (I6 1)) fun v17 =>
 some (.normal, [v17], [])))
 (za (pBin .gtr v12 (U8 57)) fun v18 =>
 ifB v18
 (za (pBin .neq v12 (U8 95)) fun v19 =>
 ifB v19
 (some (.ret, [.bool false], []))
 (za (pBin .add (nthD L8 0) (I6 1)) fun v20 =>
 some (.normal, [v20], [])))
 (za (pBin .add (nthD L8 0) (I6 1)) fun v21 =>
 some (.normal, [v21], []))))
 (za (pBin .add (nthD L8 0) (I6 1)) fun v22 =>
 some (.normal, [v22], [])))
 (some (.exit 0, [], []))
def P74 (O : Orc) (a0 : DV) : Option DA :=
  za (pStr .eql a0 (.str ⟨#[]⟩)) fun v0 =>
 ifB v0
 (some (S1 (.bool false)))
 (za (zh8 a0) fun v1 =>
 za (pBin .gtr v1 (I6 32)) fun v2 =>
 ifB v2
 (some (S1 (.bool false)))
 (za (qx a0 (I6 0)) fun v3 =>
 b1 (O 129 [S1 v3]) fun v4 =>
 za (pNot v4) fun v5 =>
 ifB v5
 (some (S1 (.bool false)))
 (xy (ya (zli O a0) [I6 1] [])
 (fun i23 _L6 _M7 => bif Nat.beq i23 0 then
 (some (S1 (.bool true)))
 else (none))
 (fun L6 _M7 => some (S1 (nthD L6 0))))))
theorem p74 (O : Orc) (a0 : DV) : pF O an74 74 [S1 a0] = P74 O a0 := by kernel_rfl
def P75 (O : Orc) (a0_0 a0_1 a0_2 a0_3 a0_4 a0_5 : DV) : Option DA :=
  b1 (O 74 [S1 a0_0]) fun v0 =>
 za (pNot v0) fun v1 =>
 ifB v1
 (some (S1 (I6 8)))
 (b1 (O 74 [S1 a0_1]) fun v2 =>
 za (pNot v2) fun v3 =>
 ifB v3
 (some (S1 (I6 8)))
 (b1 (O 130 [SA [a0_2, a0_3]]) fun v4 =>
 za (pBin .neq v4 (I6 0)) fun v5 =>
 ifB v5
 (some (S1 v4))
 (b1 (O 131 [S1 a0_4]) fun v6 =>
 za (pNot v6) fun v7 =>
 ifB v7
 (some (S1 (I6 3)))
 (za (pLen a0_5) fun v8 =>
 za (pBin .eql v8 (I6 0)) fun v9 =>
 ifB v9
 (some (S1 (I6 13)))
 (za (pLen a0_5) fun v10 =>
 za (pBin .gtr v10 (I6 128)) fun v11 =>
 ifB v11
 (some (S1 (I6 4)))
 (b1 (O 132 [S1 a0_5]) fun v12 =>
 some (S1 v12)))))))
theorem p75 (O : Orc) (a0_0 a0_1 a0_2 a0_3 a0_4 a0_5 : DV) : pF O an0 75 [SA [a0_0, a0_1, a0_2, a0_3, a0_4, a0_5]] = P75 O a0_0 a0_1 a0_2 a0_3 a0_4 a0_5 := by kernel_rfl
def an77 : Nat → Option LA := fun i => match i with | 0 => some ⟨[.slot 25], [], [], [(2, 1048576)], [], [], [.slot 4], [], []⟩ | _ => none
def zlh (O : Orc) (v4 a1_4 a0_1 a1_2 a1_3 : DV) (L7 : List DV) (M8 : List OC) : Option PX :=
  za (pBin .lss (nthD L7 0) v4) fun v9 =>
 ifB v9
 (za (pIdx 4 a1_4 (nthD L7 0)) fun x10 =>
 b1 (O 134 [SA [a0_1, a1_2, a1_3], SA [atD x10 0, atD x10 1, atD x10 2, atD x10 3]]) fun v11 =>
 za (pBin .neq v11 (I6 0)) fun v12 =>
 ifB v12
 (some (.ret, [v11], [some (zM (nthM M8 0))]))
 (za (eqDS (.inl 2) (.one (atD x10 0)) (.one (atD x10 0))) fun _q13 =>
 za (zdd (.inl 2) 1048576 (.one (atD x10 0)) (zM (nthM M8 0))) fun r14 =>
 ifB (dsO (lkD (.one (.bool false)) r14))
 (za (pBin .neq (I6 9) (I6 0)) fun v15 =>
 ifB v15
 (some (.ret, [I6 9], [some (zM (nthM M8 0))]))
 (za (pBin .add (nthD L7 0) (I6 1)) fun v16 =>
 some (.normal, [v16], [some (zM (nthM M8 0))])))
 (za (eqDS (.inl 2) (.one (atD x10 0)) (.one (atD x10 0))) fun _q17 =>
 za (putP (.inl 2) 1048576 (.one (atD x10 0)) [atD x10 0, .bool true] (zM (nthM M8 0))) fun e18 =>
 za (pBin .neq (I6 0) (I6 0)) fun v19 =>
 ifB v19
 (some (.ret, [I6 0], [some e18]))
 (za (pBin .add (nthD L7 0) (I6 1)) fun v20 =>
 some (.normal, [v20], [some e18])))))
 (some (.exit 0, [], [some (zM (nthM M8 0))]))
def P77 (O : Orc) (_a0_0 a0_1 _a0_2 _a0_3 _a1_0 _a1_1 a1_2 a1_3 a1_4 : DV) : Option DA :=
  b1 (O 133 [SA [a1_2, a1_3]]) fun v0 =>
 za (pBin .neq v0 (I6 0)) fun v1 =>
 ifB v1
 (some (S1 v0))
 (za (pLen a1_4) fun v2 =>
 za (pBin .gtr v2 (I6 60)) fun v3 =>
 ifB v3
 (some (S1 (I6 4)))
 (za (pLen a1_4) fun v4 =>
 xy (ya (zlh O v4 a1_4 a0_1 a1_2 a1_3) [I6 0] [some []])
 (fun i21 _L5 _M6 => bif Nat.beq i21 0 then
 (some (S1 (I6 0)))
 else (none))
 (fun L5 _M6 => some (S1 (nthD L5 0)))))
theorem p77 (O : Orc) (a0_0 a0_1 a0_2 a0_3 a1_0 a1_1 a1_2 a1_3 a1_4 : DV) : pF O an77 77 [SA [a0_0, a0_1, a0_2, a0_3], SA [a1_0, a1_1, a1_2, a1_3, a1_4]] = P77 O a0_0 a0_1 a0_2 a0_3 a1_0 a1_1 a1_2 a1_3 a1_4 := by kernel_rfl
def an78 : Nat → Option LA := fun i => match i with | 0 => some ⟨[.slot 19], [], [], [], [], [], [.slot 4], [], []⟩ | 1 => some ⟨[.slot 29], [], [], [], [], [], [.slot 4], [], []⟩ | _ => none
def zeR (O : Orc) (v15 a1 a0 : DV) (L18 : List DV) (_M19 : List OC) : Option PX :=
  za (pBin .lss (nthD L18 0) v15) fun v20 =>
 ifB v20
 (za (pIdx 5 a1 (nthD L18 0)) fun x21 =>
 b1 (O 74 [S1 (atD x21 0)]) fun v22 =>
 za (pNot v22) fun v23 =>
 ifB v23
 (some (.ret, [I6 8], []))
 (za (uw 5 a1 none (some (nthD L18 0))) fun v24 =>
 b1s (O 135 [S1 v24, S1 (.fn 136 [[atD x21 0, atD x21 1, atD x21 2, atD x21 3, atD x21 4]])]) fun v25 =>
 ifB v25
 (some (.ret, [I6 9], []))
 (za (pBin .lss (atD x21 1) (I6 0)) fun v26 =>
 ifB v26
 (some (.ret, [I6 10], []))
 (za (pLen a0) fun v27 =>
 za (pBin .geq (atD x21 1) v27) fun v28 =>
 ifB v28
 (some (.ret, [I6 10], []))
 (za (pBin .lss (atD x21 2) (I6 0)) fun v29 =>
 ifB v29
 (some (.ret, [I6 10], []))
 (za (pLen a0) fun v30 =>
 za (pBin .geq (atD x21 2) v30) fun v31 =>
 ifB v31
 (some (.ret, [I6 10], []))
 (za (pBin .lss (atD x21 3) (I6 (-127))) fun v32 =>
 ifB v32
 (some (.ret, [I6 3], []))
 (za (pBin .gtr (atD x21 3) (I6 127)) fun v33 =>
 ifB v33
 (some (.ret, [I6 3], []))
 (za (pBin .eql (atD x21 1) (atD x21 2)) fun v34 =>
 ifB v34
 (za (pBin .eql (atD x21 3) (I6 0)) fun v35 =>
 ifB v35
 (some (.ret, [I6 7], []))
 (za (pBin .add (nthD L18 0) (I6 1)) fun v36 =>
 some (.normal, [v36], [])))
 (za (pBin .add (nthD L18 0) (I6 1)) fun v37 =>
 some (.normal, [v37], [])))))))))))
 (some (.exit 2, [], []))
def zlg (O : Orc) (v4 a0 : DV) (L7 : List DV) (_M8 : List OC) : Option PX :=
  za (pBin .lss (nthD L7 0) v4) fun v9 =>
 ifB v9
 (za (pIdx 2 a0 (nthD L7 0)) fun x10 =>
 b1 (O 133 [SA [atD x10 0, atD x10 1]]) fun v11 =>
 za (pBin .neq v11 (I6 0)) fun v12 =>
 ifB v12
 (some (.ret, [I6 23], []))
 (za (pBin .add (nthD L7 0) (I6 1)) fun v13 =>
 some (.normal, [v13], [])))
 (some (.exit 0, [], []))
def P78 (O : Orc) (a0 a1 : DV) : Option DA :=
  za (pLen a0) fun v0 =>
 za (pBin .gtr v0 (I6 8)) fun v1 =>
 ifB v1
 (some (S1 (I6 4)))
 (za (pLen a1) fun v2 =>
 za (pBin .gtr v2 (I6 40)) fun v3 =>
 ifB v3
 (some (S1 (I6 4)))
 (za (pLen a0) fun v4 =>
 xy (ya (zlg O v4 a0) [I6 0] [])
 (fun i14 _L5 _M6 => bif Nat.beq i14 0 then
 (za (pLen a1) fun v15 =>
 xy (ya (zeR O v15 a1 a0) [I6 0] [])
 (fun i38 _L16 _M17 => bif Nat.beq i38 2 then
 (some (S1 (I6 0)))
 else (none))
 (fun L16 _M17 => some (S1 (nthD L16 0))))
 else (none))
 (fun L5 _M6 => some (S1 (nthD L5 0)))))
theorem p78 (O : Orc) (a0 a1 : DV) : pF O an78 78 [S1 a0, S1 a1] = P78 O a0 a1 := by kernel_rfl
def P100 (_O : Orc) (a0 : DV) : Option DA :=
  za (pBin .rem a0 (U8 16)) fun v0 =>
 za (qP (some [[I6 8, I6 1], [I6 4, I6 1], [I6 16, I6 1], [I6 2, I6 1], [I6 8, I6 3], [I6 8, I6 5], [I6 4, I6 3], [I6 1, I6 1], [I6 32, I6 1], [I6 16, I6 3], [I6 16, I6 5], [I6 32, I6 3], [I6 8, I6 7], [I6 2, I6 3], [I6 1, I6 2], [I6 64, I6 1]]) v0) fun n1 =>
 za (nthO (some [[I6 8, I6 1], [I6 4, I6 1], [I6 16, I6 1], [I6 2, I6 1], [I6 8, I6 3], [I6 8, I6 5], [I6 4, I6 3], [I6 1, I6 1], [I6 32, I6 1], [I6 16, I6 3], [I6 16, I6 5], [I6 32, I6 3], [I6 8, I6 7], [I6 2, I6 3], [I6 1, I6 2], [I6 64, I6 1]]) n1) fun x2 =>
 some (SA [atD x2 0, atD x2 1])
theorem p100 (O : Orc) (a0 : DV) : pF O an0 100 [S1 a0] = P100 O a0 := by kernel_rfl
def P101 (_O : Orc) (a0 : DV) : Option DA :=
  za (pBin .rem a0 (U8 6)) fun v0 =>
 za (qP (some [[I6 8, I6 1], [I6 4, I6 1], [I6 16, I6 1], [I6 8, I6 3], [I6 2, I6 1], [I6 8, I6 5]]) v0) fun n1 =>
 za (nthO (some [[I6 8, I6 1], [I6 4, I6 1], [I6 16, I6 1], [I6 8, I6 3], [I6 2, I6 1], [I6 8, I6 5]]) n1) fun x2 =>
 some (SA [atD x2 0, atD x2 1])
theorem p101 (O : Orc) (a0 : DV) : pF O an0 101 [S1 a0] = P101 O a0 := by kernel_rfl
def P102 (O : Orc) (a0_0 a0_1 a1_0 a1_1 : DV) : Option DA :=
  b1 (O 154 [SA [a0_0, a0_1], SA [a1_0, a1_1]]) fun v0 =>
 za (pBin .neq v0 (I6 0)) fun v1 =>
 ifB v1
 (some (.tup [.one (I6 0), .one v0]))
 (b1 (O 155 [SA [a0_0, a0_1], SA [a1_0, a1_1]]) fun v2 =>
 some (.tup [.one v2, .one (I6 0)]))
theorem p102 (O : Orc) (a0_0 a0_1 a1_0 a1_1 : DV) : pF O an0 102 [SA [a0_0, a0_1], SA [a1_0, a1_1]] = P102 O a0_0 a0_1 a1_0 a1_1 := by kernel_rfl
def P118 (O : Orc) (a0 a1 : DV) : Option DA :=
  b1 (O 171 [S1 a0, S1 a1]) fun v0 =>
 za (pBin .geq v0 (I6 0)) fun v1 =>
 some (S1 v1)
theorem p118 (O : Orc) (a0 a1 : DV) : pF O an0 118 [S1 a0, S1 a1] = P118 O a0 a1 := by kernel_rfl
def P129 (_O : Orc) (a0 : DV) : Option DA :=
  za (pBin .geq a0 (U8 65)) fun v0 =>
 ifB v0
 (za (pBin .leq a0 (U8 90)) fun v1 =>
 ifB v1
 (some (S1 (.bool true)))
 (za (pBin .geq a0 (U8 97)) fun v2 =>
 ifB v2
 (za (pBin .leq a0 (U8 122)) fun v3 =>
 some (S1 v3))
 (some (S1 (.bool false)))))
 (za (pBin .geq a0 (U8 97)) fun v4 =>
 ifB v4
 (za (pBin .leq a0 (U8 122)) fun v5 =>
 some (S1 v5))
 (some (S1 (.bool false))))
theorem p129 (O : Orc) (a0 : DV) : pF O an0 129 [S1 a0] = P129 O a0 := by kernel_rfl
def P130 (O : Orc) (a0_0 a0_1 : DV) : Option DA :=
  b1 (O 177 [SA [a0_0, a0_1]]) fun v0 =>
 za (pBin .neq v0 (I6 0)) fun v1 =>
 ifB v1
 (some (S1 (I6 2)))
 (za (pBin .leq a0_0 (I6 0)) fun v2 =>
 ifB v2
 (some (S1 (I6 3)))
 (za (pBin .mul (I6 128) a0_1) fun v3 =>
 za (pBin .gtr a0_0 v3) fun v4 =>
 ifB v4
 (some (S1 (I6 3)))
 (za (pBin .gtr a0_1 (I6 128)) fun v5 =>
 ifB v5
 (some (S1 (I6 4)))
 (some (S1 (I6 0))))))
theorem p130 (O : Orc) (a0_0 a0_1 : DV) : pF O an0 130 [SA [a0_0, a0_1]] = P130 O a0_0 a0_1 := by kernel_rfl
def P131 (_O : Orc) (a0 : DV) : Option DA :=
  za (pBin .geq a0 (I6 (-256))) fun v0 =>
 ifB v0
 (za (pBin .leq a0 (I6 256)) fun v1 =>
 some (S1 v1))
 (some (S1 (.bool false)))
theorem p131 (O : Orc) (a0 : DV) : pF O an0 131 [S1 a0] = P131 O a0 := by kernel_rfl
def P132 (O : Orc) (a0 : DV) : Option DA :=
  b1 (O 118 [S1 a0, S1 (.fn 178 [])]) fun v0 =>
 ifB v0
 (some (S1 (I6 3)))
 (some (S1 (I6 0)))
theorem p132 (O : Orc) (a0 : DV) : pF O an0 132 [S1 a0] = P132 O a0 := by kernel_rfl
def P133 (_O : Orc) (a0_0 a0_1 : DV) : Option DA :=
  za (pBin .lss a0_0 (I6 0)) fun v0 =>
 ifB v0
 (some (S1 (I6 3)))
 (za (pBin .gtr a0_1 (I6 127)) fun v1 =>
 ifB v1
 (some (S1 (I6 3)))
 (za (pBin .gtr a0_0 a0_1) fun v2 =>
 ifB v2
 (some (S1 (I6 23)))
 (some (S1 (I6 0)))))
theorem p133 (O : Orc) (a0_0 a0_1 : DV) : pF O an0 133 [SA [a0_0, a0_1]] = P133 O a0_0 a0_1 := by kernel_rfl
def zr9 : Nat → Option LA := fun i => match i with | 0 => some ⟨[.slot 38], [], [], [], [], [], [.slot 4], [], []⟩ | _ => none
def zbv (O : Orc) (v10 a1_3 a0_1 a0_2 a0_0 : DV) (L13 : List DV) (_M14 : List OC) : Option PX :=
  za (pBin .lss (nthD L13 0) v10) fun v15 =>
 ifB v15
 (za (pIdx 3 a1_3 (nthD L13 0)) fun x16 =>
 za (vZ false (atD x16 0) [atD x16 1]) fun v17 =>
 za (pBin .lss v17 a0_1) fun v18 =>
 ifB v18
 (some (.ret, [I6 23], []))
 (za (vZ true (atD x16 0) [atD x16 1]) fun v19 =>
 za (pBin .gtr v19 a0_2) fun v20 =>
 ifB v20
 (some (.ret, [I6 23], []))
 (za (pBin .gtr (atD x16 0) (atD x16 1)) fun v21 =>
 ifB v21
 (some (.ret, [I6 6], []))
 (za (pBin .gtr (nthD L13 0) (I6 0)) fun v22 =>
 ifB v22
 (za (pBin .sub (nthD L13 0) (I6 1)) fun v23 =>
 za (pIdx 3 a1_3 v23) fun x24 =>
 za (pBin .leq (atD x16 0) (atD x24 1)) fun v25 =>
 ifB v25
 (some (.ret, [I6 6], []))
 (b1 (O 180 [SA [a0_0, a0_1, a0_2], S1 (atD x16 2)]) fun v26 =>
 za (pBin .neq v26 (I6 0)) fun v27 =>
 ifB v27
 (some (.ret, [v26], []))
 (za (pBin .add (nthD L13 0) (I6 1)) fun v28 =>
 some (.normal, [v28], []))))
 (b1 (O 180 [SA [a0_0, a0_1, a0_2], S1 (atD x16 2)]) fun v29 =>
 za (pBin .neq v29 (I6 0)) fun v30 =>
 ifB v30
 (some (.ret, [v29], []))
 (za (pBin .add (nthD L13 0) (I6 1)) fun v31 =>
 some (.normal, [v31], [])))))))
 (some (.exit 1, [], []))
def P134 (O : Orc) (a0_0 a0_1 a0_2 a1_0 a1_1 a1_2 a1_3 : DV) : Option DA :=
  b1 (O 179 [SA [a0_0, a0_1, a0_2]]) fun v0 =>
 za (pBin .neq v0 (I6 0)) fun v1 =>
 ifB v1
 (some (S1 v0))
 (b1 (O 74 [S1 a1_0]) fun v2 =>
 za (pNot v2) fun v3 =>
 ifB v3
 (some (S1 (I6 8)))
 (b1 (O 130 [SA [a1_1, a1_2]]) fun v4 =>
 za (pBin .neq v4 (I6 0)) fun v5 =>
 ifB v5
 (some (S1 v4))
 (za (pLen a1_3) fun v6 =>
 za (pBin .eql v6 (I6 0)) fun v7 =>
 ifB v7
 (some (S1 (I6 13)))
 (za (pLen a1_3) fun v8 =>
 za (pBin .gtr v8 (I6 12)) fun v9 =>
 ifB v9
 (some (S1 (I6 4)))
 (za (pLen a1_3) fun v10 =>
 xy (ya (zbv O v10 a1_3 a0_1 a0_2 a0_0) [I6 0] [])
 (fun i32 _L11 _M12 => bif Nat.beq i32 1 then
 (some (S1 (I6 0)))
 else (none))
 (fun L11 _M12 => some (S1 (nthD L11 0))))))))
theorem p134 (O : Orc) (a0_0 a0_1 a0_2 a1_0 a1_1 a1_2 a1_3 : DV) : pF O zr9 134 [SA [a0_0, a0_1, a0_2], SA [a1_0, a1_1, a1_2, a1_3]] = P134 O a0_0 a0_1 a0_2 a1_0 a1_1 a1_2 a1_3 := by kernel_rfl
def P135 (O : Orc) (a0 a1 : DV) : Option DA :=
  b1 (O 181 [S1 a0, S1 a1]) fun v0 =>
 za (pBin .geq v0 (I6 0)) fun v1 =>
 some (S1 v1)
theorem p135 (O : Orc) (a0 a1 : DV) : pF O an0 135 [S1 a0, S1 a1] = P135 O a0 a1 := by kernel_rfl
def P136 (_O : Orc) (a0_0 _a0_1 _a0_2 _a0_3 _a0_4 c0_0 _c0_1 _c0_2 _c0_3 _c0_4 : DV) : Option DA :=
  za (pStr .eql a0_0 c0_0) fun v0 =>
 some (S1 v0)
theorem p136 (O : Orc) (a0_0 a0_1 a0_2 a0_3 a0_4 c0_0 c0_1 c0_2 c0_3 c0_4 : DV) : pF O an0 136 [SA [a0_0, a0_1, a0_2, a0_3, a0_4], S1 (.fp [c0_0, c0_1, c0_2, c0_3, c0_4] 0)] = P136 O a0_0 a0_1 a0_2 a0_3 a0_4 c0_0 c0_1 c0_2 c0_3 c0_4 := by kernel_rfl
def P154 (O : Orc) (a0_0 a0_1 a1_0 a1_1 : DV) : Option DA :=
  b1 (O 130 [SA [a0_0, a0_1]]) fun v0 =>
 za (pBin .neq v0 (I6 0)) fun v1 =>
 ifB v1
 (some (S1 v0))
 (b1 (O 130 [SA [a1_0, a1_1]]) fun v2 =>
 some (S1 v2))
theorem p154 (O : Orc) (a0_0 a0_1 a1_0 a1_1 : DV) : pF O an0 154 [SA [a0_0, a0_1], SA [a1_0, a1_1]] = P154 O a0_0 a0_1 a1_0 a1_1 := by kernel_rfl
def zr5 : Nat → Option LA := fun i => match i with | 0 => some ⟨[.slot 5, .slot 7], [], [], [], [.slot 5, .slot 7], [], [], [], []⟩ | 1 => some ⟨[.slot 6, .slot 7], [], [], [], [.slot 6, .slot 7], [], [], [], []⟩ | 2 => some ⟨[.slot 12, .slot 7], [], [], [], [.slot 7], [], [], [], []⟩ | _ => none
def zbu (O : Orc) (t20 : List DS) (L26 : List DV) (_M27 : List OC) : Option PX :=
  b1 (O 201 [S1 (dsO (dsAt t20 0)), S1 (nthD L26 0)]) fun v28 =>
 za (pBin .gtr v28 (I6 0)) fun v29 =>
 ifB v29
 (za (pBin .add (nthD L26 1) (I6 1)) fun v30 =>
 b1 (O 200 [S1 (nthD L26 0), S1 (.str ⟨#[52]⟩)]) fun v31 =>
 some (.normal, [v31, v30], []))
 (some (.exit 4, [nthD L26 1], []))
def qt (L2 : List DV) (L12 : List DV) (_M13 : List OC) : Option PX :=
  za (pBin .mul (I6 2) (nthD L12 0)) fun v14 =>
 za (pBin .geq (nthD L2 0) v14) fun v15 =>
 ifB v15
 (za (pBin .mul (nthD L12 0) (I6 2)) fun v16 =>
 za (pBin .add (nthD L12 1) (I6 12)) fun v17 =>
 some (.normal, [v16, v17], []))
 (some (.exit 2, [nthD L12 0, nthD L12 1], []))
def zcp (v1 : DV) (L4 : List DV) (_M5 : List OC) : Option PX :=
  za (pBin .lss (nthD L4 0) v1) fun v6 =>
 ifB v6
 (za (pBin .mul (nthD L4 0) (I6 2)) fun v7 =>
 za (pBin .sub (nthD L4 1) (I6 12)) fun v8 =>
 some (.normal, [v7, v8], []))
 (some (.exit 0, [nthD L4 0, nthD L4 1], []))
def P155 (O : Orc) (a0_0 a0_1 a1_0 a1_1 : DV) : Option DA :=
  za (pBin .mul a1_0 a0_1) fun v0 =>
 za (pBin .mul a1_1 a0_0) fun v1 =>
 xy (ya (zcp v1) [v0, I6 0] [])
 (fun i9 L2 _M3 => bif Nat.beq i9 0 then
 (xy (ya (qt L2) [v1, nthD L2 1] [])
 (fun i18 L10 _M11 => bif Nat.beq i18 2 then
 (b1 (O 199 [S1 (nthD L2 0)]) fun v19 =>
 bT [none, none] (O 198 [S1 v19, S1 (I6 24)]) fun t20 =>
 b1 (O 199 [S1 (nthD L10 0)]) fun v21 =>
 bT [none, none] (O 198 [S1 v21, S1 (I6 24)]) fun t22 =>
 b1 (O 200 [S1 (dsO (dsAt t22 0)), S1 (.str ⟨#[50]⟩)]) fun v23 =>
 xy (ya (zbu O t20) [v23, nthD L10 1] [])
 (fun i32 L24 _M25 => bif Nat.beq i32 4 then
 (some (S1 (nthD L24 0)))
 else (none))
 (fun _L24 _M25 => none))
 else (none))
 (fun _L10 _M11 => none))
 else (none))
 (fun _L2 _M3 => none)
theorem p155 (O : Orc) (a0_0 a0_1 a1_0 a1_1 : DV) : pF O zr5 155 [SA [a0_0, a0_1], SA [a1_0, a1_1]] = P155 O a0_0 a0_1 a1_0 a1_1 := by kernel_rfl
def zr4 : Nat → Option LA := fun i => match i with | 0 => some ⟨[.slot 8], [], [], [], [], [], [.slot 4], [], []⟩ | _ => none
def zeY (O : Orc) (v0 a0 a1 : DV) (L3 : List DV) (_M4 : List OC) : Option PX :=
  za (pBin .lss (nthD L3 0) v0) fun v5 =>
 ifB v5
 (za (pIdx 1 a0 (nthD L3 0)) fun x6 =>
 b1 (appF O a1 [S1 (atD x6 0)]) fun v7 =>
 ifB v7
 (some (.ret, [nthD L3 0], []))
 (za (pBin .add (nthD L3 0) (I6 1)) fun v8 =>
 some (.normal, [v8], [])))
 (some (.exit 0, [], []))
def P171 (O : Orc) (a0 a1 : DV) : Option DA :=
  za (pLen a0) fun v0 =>
 xy (ya (zeY O v0 a0 a1) [I6 0] [])
 (fun i9 _L1 _M2 => bif Nat.beq i9 0 then
 (some (S1 (I6 (-1))))
 else (none))
 (fun L1 _M2 => some (S1 (nthD L1 0)))
theorem p171 (O : Orc) (a0 a1 : DV) : pF O zr4 171 [S1 a0, S1 a1] = P171 O a0 a1 := by kernel_rfl
def P177 (O : Orc) (a0_0 a0_1 : DV) : Option DA :=
  za (pBin .leq a0_1 (I6 0)) fun v0 =>
 ifB v0
 (some (S1 (I6 2)))
 (za (pBin .gtr a0_1 (I6 1000000)) fun v1 =>
 ifB v1
 (some (S1 (I6 2)))
 (za (pBin .lss a0_0 (I6 (-1000000))) fun v2 =>
 ifB v2
 (some (S1 (I6 2)))
 (za (pBin .gtr a0_0 (I6 1000000)) fun v3 =>
 ifB v3
 (some (S1 (I6 2)))
 (b1 (O 213 [S1 a0_0]) fun v4 =>
 za (yQ .u64 a0_1) fun v5 =>
 b1 (O 212 [S1 v4, S1 v5]) fun v6 =>
 za (pBin .neq v6 (U64 1)) fun v7 =>
 ifB v7
 (some (S1 (I6 2)))
 (some (S1 (I6 0)))))))
theorem p177 (O : Orc) (a0_0 a0_1 : DV) : pF O an0 177 [SA [a0_0, a0_1]] = P177 O a0_0 a0_1 := by kernel_rfl
def P178 (_O : Orc) (a0 : DV) : Option DA :=
  za (pBin .lss a0 (I6 0)) fun v0 =>
 ifB v0
 (some (S1 (.bool true)))
 (za (pBin .gtr a0 (I6 1000000)) fun v1 =>
 some (S1 v1))
theorem p178 (O : Orc) (a0 : DV) : pF O an0 178 [S1 a0] = P178 O a0 := by kernel_rfl
def zr1 : Nat → Option LA := fun i => match i with | 0 => some ⟨[.slot 13], [], [], [], [], [], [.slot 2], [], []⟩ | _ => none
def zeX (O : Orc) (v2 a0_0 : DV) (L5 : List DV) (_M6 : List OC) : Option PX :=
  za (pBin .lss (nthD L5 0) v2) fun v7 =>
 ifB v7
 (za (pIdx 6 a0_0 (nthD L5 0)) fun x8 =>
 b1 (O 75 [SA [atD x8 0, atD x8 1, atD x8 2, atD x8 3, atD x8 4, atD x8 5]]) fun v9 =>
 za (pBin .neq v9 (I6 0)) fun v10 =>
 ifB v10
 (some (.ret, [v9], []))
 (za (pBin .add (nthD L5 0) (I6 1)) fun v11 =>
 some (.normal, [v11], [])))
 (some (.exit 0, [], []))
def P179 (O : Orc) (a0_0 a0_1 a0_2 : DV) : Option DA :=
  za (pLen a0_0) fun v0 =>
 za (pBin .gtr v0 (I6 60)) fun v1 =>
 ifB v1
 (some (S1 (I6 4)))
 (za (pLen a0_0) fun v2 =>
 xy (ya (zeX O v2 a0_0) [I6 0] [])
 (fun i12 _L3 _M4 => bif Nat.beq i12 0 then
 (b1 (O 133 [SA [a0_1, a0_2]]) fun v13 =>
 some (S1 v13))
 else (none))
 (fun L3 _M4 => some (S1 (nthD L3 0))))
theorem p179 (O : Orc) (a0_0 a0_1 a0_2 : DV) : pF O zr1 179 [SA [a0_0, a0_1, a0_2]] = P179 O a0_0 a0_1 a0_2 := by kernel_rfl
def zr0 : Nat → Option LA := fun i => match i with | 0 => some ⟨[.slot 12], [], [], [], [], [], [.slot 4], [], []⟩ | _ => none
def zeW (O : Orc) (v2 a1 a0_0 : DV) (L5 : List DV) (_M6 : List OC) : Option PX :=
  za (pBin .lss (nthD L5 0) v2) fun v7 =>
 ifB v7
 (za (pIdx 2 a1 (nthD L5 0)) fun x8 =>
 za (pBin .lss (atD x8 0) (I6 0)) fun v9 =>
 ifB v9
 (some (.ret, [I6 10], []))
 (za (pLen a0_0) fun v10 =>
 za (pBin .geq (atD x8 0) v10) fun v11 =>
 ifB v11
 (some (.ret, [I6 10], []))
 (za (pBin .lss (atD x8 1) (I6 (-127))) fun v12 =>
 ifB v12
 (some (.ret, [I6 3], []))
 (za (pBin .gtr (atD x8 1) (I6 127)) fun v13 =>
 ifB v13
 (some (.ret, [I6 3], []))
 (za (uw 2 a1 none (some (nthD L5 0))) fun v14 =>
 b1 (O 214 [S1 v14, SA [atD x8 0, atD x8 1]]) fun v15 =>
 ifB v15
 (some (.ret, [I6 9], []))
 (za (pBin .add (nthD L5 0) (I6 1)) fun v16 =>
 some (.normal, [v16], [])))))))
 (some (.exit 0, [], []))
def P180 (O : Orc) (a0_0 _a0_1 _a0_2 a1 : DV) : Option DA :=
  za (pLen a1) fun v0 =>
 za (pBin .gtr v0 (I6 8)) fun v1 =>
 ifB v1
 (some (S1 (I6 4)))
 (za (pLen a1) fun v2 =>
 xy (ya (zeW O v2 a1 a0_0) [I6 0] [])
 (fun i17 _L3 _M4 => bif Nat.beq i17 0 then
 (some (S1 (I6 0)))
 else (none))
 (fun L3 _M4 => some (S1 (nthD L3 0))))
theorem p180 (O : Orc) (a0_0 a0_1 a0_2 a1 : DV) : pF O zr0 180 [SA [a0_0, a0_1, a0_2], S1 a1] = P180 O a0_0 a0_1 a0_2 a1 := by kernel_rfl
def zrZ : Nat → Option LA := fun i => match i with | 0 => some ⟨[.slot 8], [], [], [], [], [], [.slot 4], [], []⟩ | _ => none
def zeV (O : Orc) (v0 a0 a1 : DV) (L3 : List DV) (_M4 : List OC) : Option PX :=
  za (pBin .lss (nthD L3 0) v0) fun v5 =>
 ifB v5
 (za (pIdx 5 a0 (nthD L3 0)) fun x6 =>
 b1 (appF O a1 [SA [atD x6 0, atD x6 1, atD x6 2, atD x6 3, atD x6 4]]) fun v7 =>
 ifB v7
 (some (.ret, [nthD L3 0], []))
 (za (pBin .add (nthD L3 0) (I6 1)) fun v8 =>
 some (.normal, [v8], [])))
 (some (.exit 0, [], []))
def P181 (O : Orc) (a0 a1 : DV) : Option DA :=
  za (pLen a0) fun v0 =>
 xy (ya (zeV O v0 a0 a1) [I6 0] [])
 (fun i9 _L1 _M2 => bif Nat.beq i9 0 then
 (some (S1 (I6 (-1))))
 else (none))
 (fun L1 _M2 => some (S1 (nthD L1 0)))
theorem p181 (O : Orc) (a0 a1 : DV) : pF O zrZ 181 [S1 a0, S1 a1] = P181 O a0 a1 := by kernel_rfl
def zrY : Nat → Option LA := fun i => match i with | 0 => some ⟨[.slot 1, .slot 0], [], [], [], [.slot 0], [], [], [], []⟩ | _ => none
def zhH (L2 : List DV) (_M3 : List OC) : Option PX :=
  za (pBin .gtr (nthD L2 0) (U64 0)) fun v4 =>
 ifB v4
 (za (pBin .rem (nthD L2 1) (nthD L2 0)) fun v5 =>
 some (.normal, [v5, nthD L2 0], []))
 (some (.exit 0, [nthD L2 1], []))
def P212 (_O : Orc) (a0 a1 : DV) : Option DA :=
  xy (ya zhH [a1, a0] [])
 (fun i6 L0 _M1 => bif Nat.beq i6 0 then
 (some (S1 (nthD L0 0)))
 else (none))
 (fun _L0 _M1 => none)
theorem p212 (O : Orc) (a0 a1 : DV) : pF O zrY 212 [S1 a0, S1 a1] = P212 O a0 a1 := by kernel_rfl
def P213 (_O : Orc) (a0 : DV) : Option DA :=
  za (pBin .lss a0 (I6 0)) fun v0 =>
 ifB v0
 (za (yQ .u64 a0) fun v1 =>
 za (pNeg v1) fun v2 =>
 some (S1 v2))
 (za (yQ .u64 a0) fun v3 =>
 some (S1 v3))
theorem p213 (O : Orc) (a0 : DV) : pF O an0 213 [S1 a0] = P213 O a0 := by kernel_rfl
def P214 (O : Orc) (a0 a1_0 a1_1 : DV) : Option DA :=
  b1 (O 259 [S1 a0, SA [a1_0, a1_1]]) fun v0 =>
 za (pBin .geq v0 (I6 0)) fun v1 =>
 some (S1 v1)
theorem p214 (O : Orc) (a0 a1_0 a1_1 : DV) : pF O an0 214 [S1 a0, SA [a1_0, a1_1]] = P214 O a0 a1_0 a1_1 := by kernel_rfl
def zrV : Nat → Option LA := fun i => match i with | 0 => some ⟨[.slot 8], [], [], [], [], [], [.slot 4], [], []⟩ | _ => none
def zeU (v0 a0 a1_0 a1_1 : DV) (L3 : List DV) (_M4 : List OC) : Option PX :=
  za (pBin .lss (nthD L3 0) v0) fun v5 =>
 ifB v5
 (za (pIdx 2 a0 (nthD L3 0)) fun x6 =>
 za (eqDs [1, 1] [a1_0, a1_1] [atD x6 0, atD x6 1]) fun q7 =>
 ifB (.bool q7)
 (some (.ret, [nthD L3 0], []))
 (za (pBin .add (nthD L3 0) (I6 1)) fun v8 =>
 some (.normal, [v8], [])))
 (some (.exit 0, [], []))
def P259 (_O : Orc) (a0 a1_0 a1_1 : DV) : Option DA :=
  za (pLen a0) fun v0 =>
 xy (ya (zeU v0 a0 a1_0 a1_1) [I6 0] [])
 (fun i9 _L1 _M2 => bif Nat.beq i9 0 then
 (some (S1 (I6 (-1))))
 else (none))
 (fun L1 _M2 => some (S1 (nthD L1 0)))
theorem p259 (O : Orc) (a0 a1_0 a1_1 : DV) : pF O zrV 259 [S1 a0, SA [a1_0, a1_1]] = P259 O a0 a1_0 a1_1 := by kernel_rfl
def anT (g : Nat) : Nat → Option LA := match g with
 | 10 => an10
 | 11 => an11
 | 24 => an24
 | 34 => an34
 | 35 => an35
 | 36 => an36
 | 37 => an37
 | 39 => an39
 | 48 => an48
 | 72 => an72
 | 74 => an74
 | 77 => an77
 | 78 => an78
 | 134 => zr9
 | 155 => zr5
 | 171 => zr4
 | 179 => zr1
 | 180 => zr0
 | 181 => zrZ
 | 212 => zrY
 | 259 => zrV
 | _ => an0
def anIT (g : Nat) : Nat → List PA → Nat → Nat → Option LA := match g with
 | _ => anI0
end Go.Proofs.Tryz.Kn
end
section
namespace Go.Proofs.Tryz.Kn
open Go Go.CE Go.PE
theorem zqF {sums : List CE.Sum} : zm6 tabI redI (fun n => yk (zW prog) (cFs (xJ prog)) sums n) := zmg
end Go.Proofs.Tryz.Kn
end
noncomputable section
namespace Go.Proofs.Tryz.Kn
open Go Go.CE Go.PE
def zpy : List CE.Sum := [kSum28]
theorem zmC : ∀ s ∈ zpy, qr Tryz.prog s := by
 intro s hs;simp only [zpy, List.mem_cons, List.not_mem_nil, or_false] at hs;rcases hs with rfl
 ·exact ztZ
def bSums : List CE.Sum := zpy ++ shSums
theorem zm3 : ∀ s ∈ bSums, qr Tryz.prog s := zm0 zmC zi6
def bIds : List Nat := [27, 198, 199, 200, 201]
theorem zld : bSums.all (fun s => bIds.any (Nat.beq s.g)) = true := by kernel_rfl
theorem zbo {g : Nat} (h : bIds.any (Nat.beq g) = false) : ∀ s ∈ bSums, Nat.beq g s.g = false := by
 intro s hs;have h1 := List.all_eq_true.1 zld s hs;cases hb : Nat.beq g s.g with
 | false => rfl
 | true =>
  rw [← Lz1 hb, h] at h1;cases h1
theorem zu {g : Nat} (h : bIds.any (Nat.beq g) = false) : bSums.all (fun s => !Nat.beq g s.g) = true :=
 List.all_eq_true.2 fun s hs => by rw [zbo h s hs]; rfl
def B : Orc := sumB bIds bSums
theorem yn {g : Nat} (h : bIds.any (Nat.beq g) = false) (args : List DA) : B g args = none := by
 unfold B sumB;rw [h]; rfl
def D (k : Nat) : Orc := deep prog bSums B anT tabI anIT redI 3 k
theorem dF {k g : Nat} {args : List DA} {x : Option DA} (h : bIds.any (Nat.beq g) = false) (e : pFun prog (D k) tabI (inl prog (D k) tabI (anIT g) redI 3) (anT g) g args = x) : D (k + 1) g args = x := (zB (yn h _) (zu h)).trans e
theorem zlI : ∀ g, tabI g = true → ∀ s ∈ bSums, Nat.beq g s.g = false := by
 intro g hg;refine zbo ?_;unfold tabI at hg;split at hg
 ·rfl
 ·rfl
 ·rfl
 ·rfl
 ·rfl
 ·cases hg
theorem D_ok (k : Nat) : jj (D k) (fun n => yk (zW prog) (cFs (xJ prog)) bSums n) := zfZ zqF zlI zop k
theorem D27 (k : Nat) : D k 27 [] = some (S1 (.bool true)) := zeD (by kernel_rfl)
theorem D7 (k : Nat) (a0_0 a0_1 a0_2 a1_0 a1_1 a2_0 a2_1 a2_2 : DV) : D (k + 1) 7 [SA [a0_0, a0_1, a0_2], SA [a1_0, a1_1], SA [a2_0, a2_1, a2_2]] = P7 (D k) a0_0 a0_1 a0_2 a1_0 a1_1 a2_0 a2_1 a2_2 := dF rfl (p7 ..)
theorem D10 (k : Nat) (a0_0 a0_1 a0_2 : DV) : D (k + 1) 10 [SA [a0_0, a0_1, a0_2]] = P10 (D k) a0_0 a0_1 a0_2 := dF rfl (p10 ..)
theorem D11 (k : Nat) (a0_0 a0_1 a0_2 : DV) : D (k + 1) 11 [SA [a0_0, a0_1, a0_2]] = P11 (D k) a0_0 a0_1 a0_2 := dF rfl (p11 ..)
theorem D24 (k : Nat) (a0_0 a0_1 a0_2 a0_3 a1_0 a1_1 a1_2 : DV) : D (k + 1) 24 [SA [a0_0, a0_1, a0_2, a0_3], SA [a1_0, a1_1, a1_2]] = P24 (D k) a0_0 a0_1 a0_2 a0_3 a1_0 a1_1 a1_2 := dF rfl (p24 ..)
theorem D28 (k : Nat) (a0_0 a0_1 a0_2 a0_3 : DV) : D (k + 1) 28 [SA [a0_0, a0_1, a0_2, a0_3]] = P28 (D k) a0_0 a0_1 a0_2 a0_3 := dF rfl (p28 ..)
theorem D29 (k : Nat) (a0_0 a0_1 a0_2 a0_3 a1 : DV) : D (k + 1) 29 [SA [a0_0, a0_1, a0_2, a0_3], S1 a1] = P29 (D k) a0_0 a0_1 a0_2 a0_3 a1 := dF rfl (p29 ..)
theorem D30 (k : Nat) (a0_0 a0_1 a0_2 a0_3 : DV) : D (k + 1) 30 [SA [a0_0, a0_1, a0_2, a0_3]] = P30 (D k) a0_0 a0_1 a0_2 a0_3 := dF rfl (p30 ..)
theorem D34 (k : Nat) (a0_0 a0_1 a0_2 a0_3 a1_0 a1_1 a1_2 a2 : DV) : D (k + 1) 34 [SA [a0_0, a0_1, a0_2, a0_3], SA [a1_0, a1_1, a1_2], S1 a2] = P34 (D k) a0_0 a0_1 a0_2 a0_3 a1_0 a1_1 a1_2 a2 := dF rfl (p34 ..)
theorem D35 (k : Nat) (a0_0 a0_1 a0_2 a0_3 a1_0 a1_1 : DV) : D (k + 1) 35 [SA [a0_0, a0_1, a0_2, a0_3], SA [a1_0, a1_1]] = P35 (D k) a0_0 a0_1 a0_2 a0_3 a1_0 a1_1 := dF rfl (p35 ..)
theorem D36 (k : Nat) (a0_0 a0_1 a0_2 a0_3 : DV) : D (k + 1) 36 [SA [a0_0, a0_1, a0_2, a0_3]] = P36 (D k) a0_0 a0_1 a0_2 a0_3 := dF rfl (p36 ..)
theorem D37 (k : Nat) (a0_0 a0_1 a0_2 a0_3 a1 : DV) : D (k + 1) 37 [SA [a0_0, a0_1, a0_2, a0_3], S1 a1] = P37 (D k) a0_0 a0_1 a0_2 a0_3 a1 := dF rfl (p37 ..)
theorem D38 (k : Nat) (a0_0 a0_1 a0_2 a0_3 : DV) : D (k + 1) 38 [SA [a0_0, a0_1, a0_2, a0_3]] = P38 (D k) a0_0 a0_1 a0_2 a0_3 := dF rfl (p38 ..)
theorem D39 (k : Nat) (a0_0 a0_1 a0_2 a0_3 a1_0 a1_1 : DV) : D (k + 1) 39 [SA [a0_0, a0_1, a0_2, a0_3], SA [a1_0, a1_1]] = P39 (D k) a0_0 a0_1 a0_2 a0_3 a1_0 a1_1 := dF rfl (p39 ..)
theorem D48 (k : Nat) (a0_0 a0_1 a0_2 a0_3 a0_4 a0_5 a0_6 a0_7 a0_8 a1 : DV) : D (k + 1) 48 [SA [a0_0, a0_1, a0_2, a0_3, a0_4, a0_5, a0_6, a0_7, a0_8], S1 a1] = P48 (D k) a0_0 a0_1 a0_2 a0_3 a0_4 a0_5 a0_6 a0_7 a0_8 a1 := dF rfl (p48 ..)
theorem D49 (k : Nat) (a0 a1_0 a1_1 a2_0 a2_1 a2_2 a2_3 a3 : DV) : D (k + 1) 49 [S1 a0, SA [a1_0, a1_1], SA [a2_0, a2_1, a2_2, a2_3], S1 a3] = P49 (D k) a0 a1_0 a1_1 a2_0 a2_1 a2_2 a2_3 a3 := dF rfl (p49 ..)
theorem D72 (k : Nat) (a0_0 a0_1 a0_2 a0_3 a1 : DV) : D (k + 1) 72 [SA [a0_0, a0_1, a0_2, a0_3], S1 a1] = P72 (D k) a0_0 a0_1 a0_2 a0_3 a1 := dF rfl (p72 ..)
theorem D74 (k : Nat) (a0 : DV) : D (k + 1) 74 [S1 a0] = P74 (D k) a0 := dF rfl (p74 ..)
theorem D75 (k : Nat) (a0_0 a0_1 a0_2 a0_3 a0_4 a0_5 : DV) : D (k + 1) 75 [SA [a0_0, a0_1, a0_2, a0_3, a0_4, a0_5]] = P75 (D k) a0_0 a0_1 a0_2 a0_3 a0_4 a0_5 := dF rfl (p75 ..)
theorem D77 (k : Nat) (a0_0 a0_1 a0_2 a0_3 a1_0 a1_1 a1_2 a1_3 a1_4 : DV) : D (k + 1) 77 [SA [a0_0, a0_1, a0_2, a0_3], SA [a1_0, a1_1, a1_2, a1_3, a1_4]] = P77 (D k) a0_0 a0_1 a0_2 a0_3 a1_0 a1_1 a1_2 a1_3 a1_4 := dF rfl (p77 ..)
theorem D78 (k : Nat) (a0 a1 : DV) : D (k + 1) 78 [S1 a0, S1 a1] = P78 (D k) a0 a1 := dF rfl (p78 ..)
theorem D100 (k : Nat) (a0 : DV) : D (k + 1) 100 [S1 a0] = P100 (D k) a0 := dF rfl (p100 ..)
theorem D101 (k : Nat) (a0 : DV) : D (k + 1) 101 [S1 a0] = P101 (D k) a0 := dF rfl (p101 ..)
theorem D102 (k : Nat) (a0_0 a0_1 a1_0 a1_1 : DV) : D (k + 1) 102 [SA [a0_0, a0_1], SA [a1_0, a1_1]] = P102 (D k) a0_0 a0_1 a1_0 a1_1 := dF rfl (p102 ..)
theorem D118 (k : Nat) (a0 a1 : DV) : D (k + 1) 118 [S1 a0, S1 a1] = P118 (D k) a0 a1 := dF rfl (p118 ..)
theorem D129 (k : Nat) (a0 : DV) : D (k + 1) 129 [S1 a0] = P129 (D k) a0 := dF rfl (p129 ..)
theorem D130 (k : Nat) (a0_0 a0_1 : DV) : D (k + 1) 130 [SA [a0_0, a0_1]] = P130 (D k) a0_0 a0_1 := dF rfl (p130 ..)
theorem D131 (k : Nat) (a0 : DV) : D (k + 1) 131 [S1 a0] = P131 (D k) a0 := dF rfl (p131 ..)
theorem D132 (k : Nat) (a0 : DV) : D (k + 1) 132 [S1 a0] = P132 (D k) a0 := dF rfl (p132 ..)
theorem D133 (k : Nat) (a0_0 a0_1 : DV) : D (k + 1) 133 [SA [a0_0, a0_1]] = P133 (D k) a0_0 a0_1 := dF rfl (p133 ..)
theorem D134 (k : Nat) (a0_0 a0_1 a0_2 a1_0 a1_1 a1_2 a1_3 : DV) : D (k + 1) 134 [SA [a0_0, a0_1, a0_2], SA [a1_0, a1_1, a1_2, a1_3]] = P134 (D k) a0_0 a0_1 a0_2 a1_0 a1_1 a1_2 a1_3 := dF rfl (p134 ..)
theorem D135 (k : Nat) (a0 a1 : DV) : D (k + 1) 135 [S1 a0, S1 a1] = P135 (D k) a0 a1 := dF rfl (p135 ..)
theorem D136 (k : Nat) (a0_0 a0_1 a0_2 a0_3 a0_4 c0_0 c0_1 c0_2 c0_3 c0_4 : DV) : D (k + 1) 136 [SA [a0_0, a0_1, a0_2, a0_3, a0_4], S1 (.fp [c0_0, c0_1, c0_2, c0_3, c0_4] 0)] = P136 (D k) a0_0 a0_1 a0_2 a0_3 a0_4 c0_0 c0_1 c0_2 c0_3 c0_4 := dF rfl (p136 ..)
theorem D154 (k : Nat) (a0_0 a0_1 a1_0 a1_1 : DV) : D (k + 1) 154 [SA [a0_0, a0_1], SA [a1_0, a1_1]] = P154 (D k) a0_0 a0_1 a1_0 a1_1 := dF rfl (p154 ..)
theorem D155 (k : Nat) (a0_0 a0_1 a1_0 a1_1 : DV) : D (k + 1) 155 [SA [a0_0, a0_1], SA [a1_0, a1_1]] = P155 (D k) a0_0 a0_1 a1_0 a1_1 := dF rfl (p155 ..)
theorem D171 (k : Nat) (a0 a1 : DV) : D (k + 1) 171 [S1 a0, S1 a1] = P171 (D k) a0 a1 := dF rfl (p171 ..)
theorem D177 (k : Nat) (a0_0 a0_1 : DV) : D (k + 1) 177 [SA [a0_0, a0_1]] = P177 (D k) a0_0 a0_1 := dF rfl (p177 ..)
theorem D178 (k : Nat) (a0 : DV) : D (k + 1) 178 [S1 a0] = P178 (D k) a0 := dF rfl (p178 ..)
theorem D179 (k : Nat) (a0_0 a0_1 a0_2 : DV) : D (k + 1) 179 [SA [a0_0, a0_1, a0_2]] = P179 (D k) a0_0 a0_1 a0_2 := dF rfl (p179 ..)
theorem D180 (k : Nat) (a0_0 a0_1 a0_2 a1 : DV) : D (k + 1) 180 [SA [a0_0, a0_1, a0_2], S1 a1] = P180 (D k) a0_0 a0_1 a0_2 a1 := dF rfl (p180 ..)
theorem D181 (k : Nat) (a0 a1 : DV) : D (k + 1) 181 [S1 a0, S1 a1] = P181 (D k) a0 a1 := dF rfl (p181 ..)
theorem D212 (k : Nat) (a0 a1 : DV) : D (k + 1) 212 [S1 a0, S1 a1] = P212 (D k) a0 a1 := dF rfl (p212 ..)
theorem D213 (k : Nat) (a0 : DV) : D (k + 1) 213 [S1 a0] = P213 (D k) a0 := dF rfl (p213 ..)
theorem D214 (k : Nat) (a0 a1_0 a1_1 : DV) : D (k + 1) 214 [S1 a0, SA [a1_0, a1_1]] = P214 (D k) a0 a1_0 a1_1 := dF rfl (p214 ..)
theorem D259 (k : Nat) (a0 a1_0 a1_1 : DV) : D (k + 1) 259 [S1 a0, SA [a1_0, a1_1]] = P259 (D k) a0 a1_0 a1_1 := dF rfl (p259 ..)
end Go.Proofs.Tryz.Kn
end
section
namespace Go.Proofs.Tryz.Kn
open Go Go.CE Go.PE
theorem zhB : ∀ (l : List UInt8) (i : Nat), zgb l i = (l[i]?).map fun c => U8 (c.toNat : Int)
 | [], i => by simp [zgb]
 | c :: l, 0 => rfl
 | c :: l, i + 1 => by
  show zgb l i = _;rw [zhB l i]; simp
theorem zd3 (s : ByteArray) (k : IntKind) (i : Nat) : qx (.str s) (.int k (i : Int)) = (s.data.toList[i]?).map fun c => U8 (c.toNat : Int) := zhB _ _
theorem zcy (s : ByteArray) : s.size = s.data.toList.length := (Array.length_toList (xs := s.data)).symm
theorem zl0 (a b : ByteArray) : pStr .eql (.str a) (.str b) = some (.bool (a.data.toList == b.data.toList)) := rfl
def kZ (n : Int) : Bool := (decide (65 ≤ n) && decide (n ≤ 90)) || (decide (97 ≤ n) && decide (n ≤ 122))
theorem t129 (k : Nat) (n : Int) : D (k + 1) 129 [S1 (U8 n)] = some (S1 (Bo (kZ n))) := by
 rw [D129];unfold P129 kZ;by_cases h1 : 65 ≤ n <;> by_cases h2 : n ≤ 90 <;> by_cases h3 : 97 ≤ n <;> by_cases h4 : n ≤ 122 <;> simp [h1, h2, h3, h4]
def ziE (n : Int) : Bool := kZ n || (decide (48 ≤ n) && decide (n ≤ 57)) || decide (n = 95)
def isName (s : ByteArray) : Bool :=
 match s.data.toList with
 | [] => false
 | c :: l => decide (l.length ≤ 31) && kZ (c.toNat : Int) && l.all fun c => ziE (c.toNat : Int)
theorem l74 (k : Nat) (s : ByteArray) (hs : s.data.toList.length ≤ 1000) : ∀ (r : List UInt8) (i : Nat), s.data.toList.drop i = r →
  ya (zli (D (k + 1)) (.str s)) [I6 (i : Int)] [] = some (if r.all (fun c => ziE (c.toNat : Int)) then (.exit 0, [], []) else (.ret, [Bo false], [])) := by
 intro r
 induction r with
 | nil =>
  intro i h;refine zE ?_;have := ym h;simp only [zli, zJ, zaz, zb, zt, zcy, x9 this, zw];rfl
 | cons c r ih =>
  intro i h;have h1 := yO h;have h2 : (i : Int) < (s.data.toList.length : Int) := by omega
  have ea : pBin .add (I6 (i : Int)) (I6 1) = some (I6 ((i + 1 : Nat) : Int)) := xa;have ix : qx (.str s) (I6 (i : Int)) = some (U8 (c.toNat : Int)) := by rw [zd3, yL h]; rfl
  have body : zli (D (k + 1)) (.str s) [I6 (i : Int)] [] = some (if ziE (c.toNat : Int) then (.normal, [I6 ((i + 1 : Nat) : Int)], []) else (.ret, [Bo false], [])) := by
   simp only [zli, zJ, zaz, zb, zt, zw, zcy, lt_i h1, if_true, ix, t129, ye, xn, ea, yz, yj];unfold ziE;cases kZ (c.toNat : Int) with
   | true => simp
   | false =>
    by_cases h3 : (c.toNat : Int) < 48
    ·by_cases h4 : (c.toNat : Int) = 95
     ·omega
     ·have : ¬ (48 ≤ (c.toNat : Int)) := by omega
      simp [h3, h4, this]
    ·by_cases h5 : 57 < (c.toNat : Int)
     ·have h6 : ¬ ((c.toNat : Int) ≤ 57) := by omega
      by_cases h4 : (c.toNat : Int) = 95 <;> simp [h3, h4, h5, h6]
     ·have h6 : (c.toNat : Int) ≤ 57 := by omega
      have h7 : 48 ≤ (c.toNat : Int) := by omega
      simp [h3, h5, h6, h7]
  cases hc : ziE (c.toNat : Int) with
  | true =>
   rw [hc] at body;rw [z5 body, ih (i + 1) (z6 h)];simp [hc]
  | false =>
   rw [hc] at body;rw [zD body];simp [hc]
theorem t74 (k : Nat) (s : ByteArray) : D (k + 2) 74 [S1 (St s)] = some (S1 (Bo (isName s))) := by
 rw [D74];unfold P74 isName;simp only [zl0, zb, zw, zaz, yj, zcy];cases hl : s.data.toList with
 | nil => rfl
 | cons c l =>
  have ix : qx (.str s) (I6 0) = some (U8 (c.toNat : Int)) := by
   have := zd3 s .i64 0;rw [hl] at this;exact this
  simp only [ix, zb, t129, ye, xn, zw];rw [show ((c :: l : List UInt8) == (ByteArray.mk #[]).data.toList) = false from rfl]
  by_cases h1 : l.length ≤ 31
  ·have h2 : ¬ (32 < ((c :: l).length : Int)) := by simp only [List.length_cons]; omega
   simp only [h2, h1, decide_true, decide_false, Bool.true_and, Bool.false_eq_true, if_false];cases kZ (c.toNat : Int) with
   | false => rfl
   | true =>
    have := l74 k s (by rw [hl, List.length_cons]; omega) l 1 (by rw [hl]; rfl)
    simp only [Bool.not_true, Bool.false_eq_true, if_false, Bool.true_and];rw [show (I6 1 : DV) = I6 ((1 : Nat) : Int) from rfl, this]
    cases l.all fun c => ziE (c.toNat : Int) <;> rfl
  ·have h2 : 32 < ((c :: l).length : Int) := by simp only [List.length_cons]; omega
   simp only [h1, h2, decide_true, decide_false, Bool.false_and, if_true];rfl
def right (a b : Int) : Int := if a < 0 then 3 else if 127 < b then 3 else if b < a then 23 else 0
theorem t133 (k : Nat) (a b : Int) : D (k + 1) 133 [SA [I6 a, I6 b]] = some (S1 (I6 (right a b))) := by
 rw [D133];unfold P133 right;by_cases h1 : a < 0 <;> by_cases h2 : 127 < b <;> by_cases h3 : b < a <;> simp [h1, h2, h3]
theorem l212 (_O : Orc) : ∀ (b a : Nat), ya (zhH) [U64 (b : Int), U64 (a : Int)] [] = some (.exit 0, [U64 ((Nat.gcd b a : Nat) : Int)], []) := by
 intro b
 induction b using Nat.strongRecOn with
 | ind b ih =>
  intro a;by_cases hb : 0 < b
  ·have hz : (b : Int) ≠ 0 := by omega
   have h0 : (0 : Int) < (b : Int) := by omega
   rw [z5 (L' := [U64 ((a % b : Nat) : Int), U64 (b : Int)]) (M' := []) (by simp only [zhH, zJ, y5, yj, zb, zw, q8 _ _ _ hz, h0, decide_true, if_true]; rfl), ih (a % b) (Nat.mod_lt _ hb) b, ← Nat.gcd_rec]
  ·have : b = 0 := by omega
   subst this;exact zE (by simp [zhH])
theorem t212 (k : Nat) (a b : Nat) : D (k + 1) 212 [S1 (U64 (a : Int)), S1 (U64 (b : Int))] = some (S1 (U64 ((Nat.gcd b a : Nat) : Int))) := by
 rw [D212];unfold P212;rw [l212 B];rfl
theorem zmZ {k : IntKind} {n : Nat} (h : n ≤ 18446744073709551615) : yQ .u64 (.int k (n : Int)) = some (U64 (n : Int)) := by
 show some (DV.int .u64 (bif Nat.ble n 18446744073709551615 then .ofNat n else IntKind.wrap .u64 (.ofNat n))) = _
 rw [Nat.ble_eq_true_of_le h]; rfl
theorem t213 (k : Nat) {a : Int} (h1 : -1000000 ≤ a) (h2 : a ≤ 1000000) : D (k + 1) 213 [S1 (I6 a)] = some (S1 (U64 (a.natAbs : Int))) := by
 rw [D213];unfold P213;by_cases h : a < 0
 ·obtain ⟨n, rfl⟩ : ∃ n : Nat, a = -(n : Int) := ⟨a.natAbs, by omega⟩
  have e1 : yQ .u64 (I6 (-(n : Int))) = some (U64 (18446744073709551616 - (n : Int))) := by
   show some (DV.int .u64 (xK .u64 (-(n : Int)))) = _;rw [zod]; congr 2; omega
  have e2 : xK .u64 (-(18446744073709551616 - (n : Int))) = (n : Int) := by rw [zod]; omega
  simp only [zt, zb, zw, h, decide_true, if_true, e1, zl1, e2];simp
 ·obtain ⟨n, rfl⟩ : ∃ n : Nat, a = (n : Int) := ⟨a.natAbs, by omega⟩
  simp only [zt, zb, zw, h, decide_false, Bool.false_eq_true, if_false, zmZ (show n ≤ 18446744073709551615 by omega)]
  simp
def za4 (n d : Int) : Int := if d ≤ 0 then 2 else if 1000000 < d then 2 else if n < -1000000 then 2 else if 1000000 < n then 2 else bif Nat.gcd d.toNat n.natAbs == 1 then 0 else 2
theorem t177 (k : Nat) (n d : Int) : D (k + 2) 177 [SA [I6 n, I6 d]] = some (S1 (I6 (za4 n d))) := by
 rw [D177];unfold P177 za4;simp only [q9, yj, zt, zb, zw, decide_eq_true_eq];by_cases h1 : d ≤ 0
 ·simp only [h1, if_true]
 by_cases h2 : 1000000 < d
 ·simp only [h1, h2, if_true, if_false]
 by_cases h3 : n < -1000000
 ·simp only [h1, h2, h3, if_true, if_false]
 by_cases h4 : 1000000 < n
 ·simp only [h1, h2, h3, h4, if_true, if_false]
 obtain ⟨m, rfl⟩ : ∃ m : Nat, d = (m : Int) := ⟨d.toNat, by omega⟩
 simp only [h1, h2, h3, h4, if_false];rw [t213 k (by omega) (by omega)]
 simp only [ye, zmZ (show m ≤ 18446744073709551615 by omega), zb, t212, yz, zw, Int.toNat_natCast]
 generalize Nat.gcd m n.natAbs = q;by_cases h5 : q = 1
 ·rw [h5]; rfl
 ·have : ¬ ((q : Int) = 1) := by omega
  have h6 : (q == 1) = false := by simpa using h5
  simp [this, h6]
def wi (n d : Int) : Int := if za4 n d ≠ 0 then 2 else if n ≤ 0 then 3 else if 128 * d < n then 3 else if 128 < d then 4 else 0
theorem t130 (k : Nat) (n d : Int) : D (k + 3) 130 [SA [I6 n, I6 d]] = some (S1 (I6 (wi n d))) := by
 rw [D130];unfold P130 wi;rw [t177];simp only [ye, yz, zb, zw];by_cases h : za4 n d = 0
 ·have hd : 0 < d ∧ d ≤ 1000000 := by
   unfold za4 at h;split at h
   ·cases h
   split at h
   ·cases h
   omega
  simp only [h, q9, zb, zw, zft (show (-9223372036854775808 : Int) ≤ 128 * d by omega) (show 128 * d ≤ 9223372036854775807 by omega), yj, decide_eq_true_eq]
  by_cases h1 : n ≤ 0
  ·simp [h1]
  by_cases h2 : 128 * d < n
  ·simp [h1, h2]
  by_cases h3 : 128 < d <;> simp [h1, h2, h3]
 ·simp [h]
theorem t131 (k : Nat) (n : Int) : D (k + 1) 131 [S1 (I6 n)] = some (S1 (Bo (decide (-256 ≤ n) && decide (n ≤ 256)))) := by
 rw [D131];unfold P131;by_cases h1 : -256 ≤ n <;> by_cases h2 : n ≤ 256 <;> simp [h1, h2]
def xm (n : Int) : Bool := decide (n < 0) || decide (1000000 < n)
theorem t178 (k : Nat) (n : Int) : D (k + 1) 178 [S1 (I6 n)] = some (S1 (Bo (xm n))) := by
 rw [D178];unfold P178 xm;by_cases h1 : n < 0 <;> by_cases h2 : 1000000 < n <;> simp [h1, h2]
theorem zrG (O : Orc) (g : Nat) (ds : List DA) : appF O (.fn g []) ds = O g ds := by simp [appF]
def vi {α : Type} (p : α → Bool) : List α → Nat → Option Nat
 | [], _ => none
 | x :: l, i => if p x then some i else vi p l (i + 1)
theorem wV {α : Type} (p : α → Bool) : ∀ (l : List α) (i : Nat), (vi p l i).isSome = l.any p
 | [], _ => rfl
 | x :: l, i => by
  simp only [vi, List.any_cons];cases h : p x
  ·simp [wV p l (i + 1)]
  ·simp
def found : Option Nat → PX
 | some i => (.ret, [I6 (i : Int)], [])
 | none => (.exit 0, [], [])
abbrev enW (n : Int) : List DV := [I6 n]
theorem l171 (k : Nat) (w : Sl Int) (hw : w.els.length ≤ 9223372036854775807) : ∀ (r : List Int) (i : Nat), w.els.drop i = r →
  ya (zeY (D (k + 1)) (I6 (w.els.length : Int)) (enL 1 enW w) (.fn 178 [])) [I6 (i : Int)] [] = some (found (vi xm r i)) := by
 intro r
 induction r with
 | nil =>
  intro i h;refine zE ?_;simp only [zeY, zJ, zt, zb, x9 (ym h), zw];rfl
 | cons x r ih =>
  intro i h;have h1 := yO h;have ea : pBin .add (I6 (i : Int)) (I6 1) = some (I6 ((i + 1 : Nat) : Int)) := xa;have body : zeY (D (k + 1)) (I6 (w.els.length : Int)) (enL 1 enW w) (.fn 178 []) [I6 (i : Int)] [] = some (if xm x then (.ret, [I6 (i : Int)], []) else (.normal, [I6 ((i + 1 : Nat) : Int)], [])) := by
   simp only [zeY, zJ, zt, zb, lt_i h1, zw, if_true, yb h, wR, zrG, t178, ye, ea];cases xm x <;> rfl
  cases hc : xm x with
  | true => rw [hc] at body; rw [zD body]; simp [vi, hc, found]
  | false => rw [hc] at body; rw [z5 body, ih (i + 1) (z6 h)]; simp [vi, hc]
theorem t171 (k : Nat) (w : Sl Int) (hw : w.els.length ≤ 9223372036854775807) : D (k + 2) 171 [S1 (enL 1 enW w), S1 (.fn 178 [])] = some (S1 (I6 (match vi xm w.els 0 with | some i => (i : Int) | none => -1))) := by
 rw [D171];unfold P171;have := l171 k w hw w.els 0 rfl;simp only [zL, zb];rw [show (I6 0 : DV) = I6 ((0 : Nat) : Int) from rfl, this]
 cases vi xm w.els 0 <;> rfl
theorem t118 (k : Nat) (w : Sl Int) (hw : w.els.length ≤ 9223372036854775807) : D (k + 3) 118 [S1 (enL 1 enW w), S1 (.fn 178 [])] = some (S1 (Bo (w.els.any xm))) := by
 rw [D118];unfold P118;rw [t171 k w hw, ← wV xm w.els 0];cases vi xm w.els 0 with
 | none => rfl
 | some i =>
  have : (0 : Int) ≤ (i : Int) := by omega
  simp [this]
theorem t132 (k : Nat) (w : Sl Int) (hw : w.els.length ≤ 9223372036854775807) : D (k + 4) 132 [S1 (enL 1 enW w)] = some (S1 (I6 (if w.els.any xm then 3 else 0))) := by
 rw [D132];unfold P132;rw [t118 k w hw];cases w.els.any xm <;> rfl
structure Rank where
 name : ByteArray
 tone : ByteArray
 num : Int
 den : Int
 first : Int
 wind : Sl Int
def enR (r : Rank) : List DV := [St r.name, St r.tone, I6 r.num, I6 r.den, I6 r.first, enL 1 enW r.wind]
def yI (r : Rank) : Int :=
 if !isName r.name then 8 else if !isName r.tone then 8 else if wi r.num r.den ≠ 0 then wi r.num r.den
 else if !(decide (-256 ≤ r.first) && decide (r.first ≤ 256)) then 3 else if r.wind.els.length = 0 then 13 else if 128 < r.wind.els.length then 4 else if r.wind.els.any xm then 3 else 0
theorem t75 (k : Nat) (r : Rank) (hw : r.wind.els.length ≤ 9223372036854775807) : D (k + 5) 75 [SA (enR r)] = some (S1 (I6 (yI r))) := by
 unfold enR;rw [D75];unfold P75 yI;simp only [t74, ye, xn, zb, zw];cases isName r.name with
 | false => rfl
 | true =>
  cases isName r.tone with
  | false => rfl
  | true =>
   simp only [t130, t131, t132 k r.wind hw, ye, xn, zb, zw, yz, zL, wt, yj, Bool.not_true, Bool.false_eq_true, if_false];by_cases h1 : wi r.num r.den = 0
   ·simp only [h1];cases (decide (-256 ≤ r.first) && decide (r.first ≤ 256)) with
    | false => rfl
    | true =>
     by_cases h2 : r.wind.els.length = 0
     ·simp [h2]
     ·have h3 : ¬ ((r.wind.els.length : Int) = 0) := by omega
      by_cases h4 : 128 < r.wind.els.length
      ·have h5 : (128 : Int) < (r.wind.els.length : Int) := by omega
       simp [h2, h4, h5]
      ·have h5 : ¬ ((128 : Int) < (r.wind.els.length : Int)) := by omega
       simp [h2, h4, h5]
   ·simp [h1]
def wq : List Rank → Int
 | [] => 0
 | r :: l => if yI r ≠ 0 then yI r else wq l
def zbU (r : Rank) : Prop := r.wind.els.length ≤ 9223372036854775807
def errX (id : Nat) (e : Int) : PX := if e ≠ 0 then (.ret, [I6 e], []) else (.exit id, [], [])
theorem l179 (k : Nat) (l : Sl Rank) (hl : l.els.length ≤ 9223372036854775807) (hr : ∀ r ∈ l.els, zbU r) : ∀ (r : List Rank) (i : Nat), l.els.drop i = r →
  ya (zeX (D (k + 5)) (I6 (l.els.length : Int)) (enL 6 enR l)) [I6 (i : Int)] [] = some (errX 0 (wq r)) := by
 intro r
 induction r with
 | nil =>
  intro i h;refine zE ?_;simp only [zeX, zJ, zt, zb, x9 (ym h), zw];rfl
 | cons x r ih =>
  intro i h;have h1 := yO h;have ea : pBin .add (I6 (i : Int)) (I6 1) = some (I6 ((i + 1 : Nat) : Int)) := xa;have hx : zbU x := hr x (Lz3 (yL h));have c : D (k + 5) 75 [SA [atD (enR x) 0, atD (enR x) 1, atD (enR x) 2, atD (enR x) 3, atD (enR x) 4, atD (enR x) 5]] = some (S1 (I6 (yI x))) := t75 k x hx;have body : zeX (D (k + 5)) (I6 (l.els.length : Int)) (enL 6 enR l) [I6 (i : Int)] [] = some (if yI x ≠ 0 then (.ret, [I6 (yI x)], []) else (.normal, [I6 ((i + 1 : Nat) : Int)], [])) := by
   simp only [zeX, zJ, zt, zb, lt_i h1, zw, if_true, yb h, c, ye, yz, ea];by_cases hz : yI x = 0 <;> simp [hz]
  by_cases hc : yI x = 0
  ·rw [if_neg (by simpa using hc)] at body; rw [z5 body, ih (i + 1) (z6 h)]; simp [wq, hc]
  ·rw [if_pos hc] at body; rw [zD body]; simp [wq, hc, errX]
structure Place where
 ranks : Sl Rank
 low : Int
 high : Int
def enP (x : Place) : List DV := [enL 6 enR x.ranks, I6 x.low, I6 x.high]
structure Place.ok (x : Place) : Prop where
 len : x.ranks.els.length ≤ 9223372036854775807
 ranks : ∀ r ∈ x.ranks.els, zbU r
def vY (x : Place) : Int := if 60 < x.ranks.els.length then 4 else if wq x.ranks.els ≠ 0 then wq x.ranks.els else right x.low x.high
theorem t179 (k : Nat) (x : Place) (hx : x.ok) : D (k + 6) 179 [SA (enP x)] = some (S1 (I6 (vY x))) := by
 unfold enP;rw [D179];unfold P179 vY;have := l179 k x.ranks hx.len hx.ranks x.ranks.els 0 rfl;simp only [zL, zb, yj, zw];rw [show (I6 0 : DV) = I6 ((0 : Nat) : Int) from rfl, this]
 by_cases h1 : 60 < x.ranks.els.length
 ·have h2 : (60 : Int) < (x.ranks.els.length : Int) := by omega
  simp [h1, h2]
 ·have h2 : ¬ ((60 : Int) < (x.ranks.els.length : Int)) := by omega
  simp only [h1, h2, decide_false, Bool.false_eq_true, if_false];unfold errX;by_cases h3 : wq x.ranks.els = 0
  ·simp [h3, t133]
  ·simp [h3]
structure Draw where
 rank : Int
 shift : Int
deriving DecidableEq
def enD (d : Draw) : List DV := [I6 d.rank, I6 d.shift]
theorem zkU (a b : Draw) : eqDs [1, 1] [I6 a.rank, I6 a.shift] [I6 b.rank, I6 b.shift] = some (decide (a = b)) := by
 cases a with | mk r s =>
 cases b with | mk r' s' =>
 simp only [eqDs, eqD, yU, cond_true, uP];by_cases h1 : r = r'
 ·by_cases h2 : s = s'
  ·simp [h1, h2]
  ·have e2 : (s == s') = false := by simpa using h2
   simp [h1, h2, e2]
 ·have e1 : (r == r') = false := by simpa using h1
  simp [h1, e1]
theorem l259 (d : Draw) (l : Sl Draw) (hl : l.els.length ≤ 9223372036854775807) : ∀ (r : List Draw) (i : Nat), l.els.drop i = r →
  ya (zeU (I6 (l.els.length : Int)) (enL 2 enD l) (I6 d.rank) (I6 d.shift)) [I6 (i : Int)] [] = some (found (vi (fun x => decide (d = x)) r i)) := by
 intro r
 induction r with
 | nil =>
  intro i h;refine zE ?_;simp only [zeU, zJ, zt, zb, x9 (ym h), zw];rfl
 | cons x r ih =>
  intro i h;have h1 := yO h;have ea : pBin .add (I6 (i : Int)) (I6 1) = some (I6 ((i + 1 : Nat) : Int)) := xa;have eq := zkU d x;have body : zeU (I6 (l.els.length : Int)) (enL 2 enD l) (I6 d.rank) (I6 d.shift) [I6 (i : Int)] [] = some (if d = x then (.ret, [I6 (i : Int)], []) else (.normal, [I6 ((i + 1 : Nat) : Int)], [])) := by
   simp only [zeU, zJ, zt, zb, lt_i h1, zw, if_true, yb h, enD, wR, vS, eq, ea];by_cases hz : d = x <;> simp [hz]
  by_cases hc : d = x
  ·rw [if_pos hc] at body; rw [zD body]; simp [vi, hc, found]
  ·rw [if_neg hc] at body; rw [z5 body, ih (i + 1) (z6 h)]; simp [vi, hc]
theorem t259 (k : Nat) (d : Draw) (l : Sl Draw) (hl : l.els.length ≤ 9223372036854775807) : D (k + 1) 259 [S1 (enL 2 enD l), SA (enD d)] = some (S1 (I6 (match vi (fun x => decide (d = x)) l.els 0 with | some i => (i : Int) | none => -1))) := by
 unfold enD;rw [D259];unfold P259;have := l259 d l hl l.els 0 rfl;unfold enD at this;simp only [zL, zb];rw [show (I6 0 : DV) = I6 ((0 : Nat) : Int) from rfl, this]
 cases vi (fun x => decide (d = x)) l.els 0 <;> rfl
theorem t214 (k : Nat) (d : Draw) (l : Sl Draw) (hl : l.els.length ≤ 9223372036854775807) : D (k + 2) 214 [S1 (enL 2 enD l), SA (enD d)] = some (S1 (Bo (l.els.any fun x => decide (d = x)))) := by
 have := t259 k d l hl;unfold enD at this ⊢;rw [D214];unfold P214;rw [this, ← wV (fun x => decide (d = x)) l.els 0]
 cases vi (fun x => decide (d = x)) l.els 0 with
 | none => rfl
 | some i =>
  have : (0 : Int) ≤ (i : Int) := by omega
  simp [this]
end Go.Proofs.Tryz.Kn
end
section
namespace Go.Proofs.Tryz.Kn
open Go Go.CE Go.PE
theorem zty (y : Nat) : bndD none 0 y = some 0 := rfl
theorem ztz {k : IntKind} {i d y : Nat} (h : i ≤ y) : bndD (some (.int k (i : Int))) d y = some i := by
 show (bif Nat.ble i y then some i else none) = _
 rw [Nat.ble_eq_true_of_le h]; rfl
theorem zay {α : Type} {st i : Nat} {f : α → List DV} {l : List α} {k : IntKind} (h : i ≤ l.length) :
  uw st (enL st f (some l)) none (some (.int k (i : Int))) = some (enL st f (some (l.take i))) := by
 unfold uw;rw [kI];simp only [Nat.beq_refl, cond_true, List.length_map, ztz h, zty];rw [Bool.true_or, cond_true, List.drop_zero, Nat.sub_zero, ← List.map_take];rfl
def vn (n : Nat) : List Draw → List Draw → Int
 | _, [] => 0
 | p, d :: r => if d.rank < 0 then 10 else if (n : Int) ≤ d.rank then 10 else if d.shift < -127 then 3 else if 127 < d.shift then 3 else if p.any (fun x => decide (d = x)) then 9 else vn n (p ++ [d]) r
def yM (n : Nat) (l : List Draw) : Int := if 8 < l.length then 4 else vn n [] l
theorem l180 (k : Nat) (rs : Sl Rank) (l : List Draw) (hl : l.length ≤ 9223372036854775807) : ∀ (r : List Draw) (i : Nat), l.drop i = r →
  ya (zeW (D (k + 2)) (I6 (l.length : Int)) (enL 2 enD (some l)) (enL 6 enR rs)) [I6 (i : Int)] [] = some (errX 0 (vn rs.els.length (l.take i) r)) := by
 intro r
 induction r with
 | nil =>
  intro i h;refine zE ?_;simp only [zeW, zJ, zt, zb, x9 (ym h), zw];rfl
 | cons x r ih =>
  intro i h;have h1 := yO h;have ea : pBin .add (I6 (i : Int)) (I6 1) = some (I6 ((i + 1 : Nat) : Int)) := xa;have ix : pIdx 2 (enL 2 enD (some l)) (I6 (i : Int)) = some (enD x) := yb (v := some l) h _;have sl : uw 2 (enL 2 enD (some l)) none (some (I6 (i : Int))) = some (enL 2 enD (some (l.take i))) := zay (by omega)
  have c := t214 k x (some (l.take i)) (by simp only [Sl.els, Option.getD_some, List.length_take]; omega)
  simp only [enD] at c;have body : zeW (D (k + 2)) (I6 (l.length : Int)) (enL 2 enD (some l)) (enL 6 enR rs) [I6 (i : Int)] [] =
    some (if x.rank < 0 then (.ret, [I6 10], []) else if (rs.els.length : Int) ≤ x.rank then (.ret, [I6 10], []) else if x.shift < -127 then (.ret, [I6 3], []) else if 127 < x.shift then (.ret, [I6 3], []) else if (l.take i).any (fun y => decide (x = y)) then (.ret, [I6 9], []) else (.normal, [I6 ((i + 1 : Nat) : Int)], [])) := by
   simp only [zeW, zJ, zt, zb, lt_i h1, zw, if_true, ix, enD, wR, vS, zL, u5, yj, sl, c, ye, ea, decide_eq_true_eq, Sl.els, Option.getD_some]
   repeat (split <;> try rfl)
  have hn : l.take (i + 1) = l.take i ++ [x] := by rw [List.take_add_one, yL h]; rfl
  unfold vn;by_cases a1 : x.rank < 0
  ·rw [if_pos a1] at body ⊢; rw [zD body]; rfl
  rw [if_neg a1] at body ⊢;by_cases a2 : (rs.els.length : Int) ≤ x.rank
  ·rw [if_pos a2] at body ⊢; rw [zD body]; rfl
  rw [if_neg a2] at body ⊢;by_cases a3 : x.shift < -127
  ·rw [if_pos a3] at body ⊢; rw [zD body]; rfl
  rw [if_neg a3] at body ⊢;by_cases a4 : 127 < x.shift
  ·rw [if_pos a4] at body ⊢; rw [zD body]; rfl
  rw [if_neg a4] at body ⊢;by_cases a5 : (l.take i).any (fun y => decide (x = y)) = true
  ·rw [if_pos a5] at body ⊢; rw [zD body]; rfl
  rw [if_neg a5] at body ⊢;rw [z5 body, ih (i + 1) (z6 h), hn]
theorem t180 (k : Nat) (x : Place) (l : Sl Draw) (hl : l.els.length ≤ 9223372036854775807) : D (k + 3) 180 [SA (enP x), S1 (enL 2 enD l)] = some (S1 (I6 (yM x.ranks.els.length l.els))) := by
 unfold enP;rw [D180];unfold P180 yM;simp only [zL, zb, yj, zw];by_cases h1 : 8 < l.els.length
 ·have h2 : (8 : Int) < (l.els.length : Int) := by omega
  simp [h1, h2]
 ·have h2 : ¬ ((8 : Int) < (l.els.length : Int)) := by omega
  simp only [h1, h2, decide_false, Bool.false_eq_true, if_false];cases l with
  | none => rw [zE (id := 0) (L' := []) (M' := []) (by rfl)]; rfl
  | some l =>
   have := l180 k x.ranks l hl l 0 rfl;rw [show (I6 0 : DV) = I6 ((0 : Nat) : Int) from rfl, show Sl.els (some l : Sl Draw) = l from rfl, this, List.take_zero]
   unfold errX;by_cases h3 : vn x.ranks.els.length [] l = 0
   ·simp [h3]
   ·simp [h3]
structure Seg where
 lo : Int
 hi : Int
 draws : Sl Draw
def enS (g : Seg) : List DV := [I6 g.lo, I6 g.hi, enL 2 enD g.draws]
def zqq (g : Seg) : Prop := g.draws.els.length ≤ 9223372036854775807
structure Stop where
 name : ByteArray
 num : Int
 den : Int
 segs : Sl Seg
def wn (s : Stop) : List DV := [St s.name, I6 s.num, I6 s.den, enL 3 enS s.segs]
structure Stop.ok (s : Stop) : Prop where
 len : s.segs.els.length ≤ 9223372036854775807
 segs : ∀ g ∈ s.segs.els, zqq g
def leO (a : Int) : Option Int → Bool
 | some t => decide (a ≤ t)
 | none => false
def qw (l : List Seg) : Nat → Option Int
 | 0 => none
 | j + 1 => (l[j]?).map Seg.hi
def vV (x : Place) : List Seg → Option Int → Int
 | [], _ => 0
 | g :: r, p =>
  if min g.lo g.hi < x.low then 23 else if x.high < max g.lo g.hi then 23 else if g.hi < g.lo then 6
  else if leO g.lo p then 6
  else if yM x.ranks.els.length g.draws.els ≠ 0 then yM x.ranks.els.length g.draws.els else vV x r (some g.hi)
theorem l134 (k : Nat) (x : Place) (l : Sl Seg) (hl : l.els.length ≤ 9223372036854775807) (hs : ∀ g ∈ l.els, zqq g) : ∀ (r : List Seg) (i : Nat), l.els.drop i = r →
  ya (zbv (D (k + 3)) (I6 (l.els.length : Int)) (enL 3 enS l) (I6 x.low) (I6 x.high) (enL 6 enR x.ranks)) [I6 (i : Int)] [] = some (errX 1 (vV x r (qw l.els i))) := by
 intro r
 induction r with
 | nil =>
  intro i h;refine zE ?_;simp only [zbv, zJ, zt, zb, x9 (ym h), zw];rfl
 | cons g r ih =>
  intro i h;have h1 := yO h;have ea : pBin .add (I6 (i : Int)) (I6 1) = some (I6 ((i + 1 : Nat) : Int)) := xa;have c := t180 k x g.draws (hs g (Lz3 (yL h)));simp only [enP] at c;have body : zbv (D (k + 3)) (I6 (l.els.length : Int)) (enL 3 enS l) (I6 x.low) (I6 x.high) (enL 6 enR x.ranks) [I6 (i : Int)] [] =
    some (if min g.lo g.hi < x.low then (.ret, [I6 23], []) else if x.high < max g.lo g.hi then (.ret, [I6 23], []) else if g.hi < g.lo then (.ret, [I6 6], [])
     else if leO g.lo (qw l.els i) = true then (.ret, [I6 6], []) else if yM x.ranks.els.length g.draws.els ≠ 0 then (.ret, [I6 (yM x.ranks.els.length g.draws.els)], []) else (.normal, [I6 ((i + 1 : Nat) : Int)], [])) := by
   simp only [zbv, zJ, zt, zb, lt_i h1, zw, if_true, yb h, enS, wR, vS, zqK, zqL, yj, c, ye, ea, decide_eq_true_eq, yz];have tail : (if (!(yM x.ranks.els.length g.draws.els == 0)) = true then some ((.ret, [I6 (yM x.ranks.els.length g.draws.els)], []) : PX) else some (.normal, [I6 ((i + 1 : Nat) : Int)], [])) =
     some (if yM x.ranks.els.length g.draws.els ≠ 0 then (.ret, [I6 (yM x.ranks.els.length g.draws.els)], []) else (.normal, [I6 ((i + 1 : Nat) : Int)], [])) := by
    by_cases hz : yM x.ranks.els.length g.draws.els = 0 <;> simp [hz]
   rw [tail];cases i with
   | zero =>
    have : ¬ ((0 : Int) < ((0 : Nat) : Int)) := by omega
    simp only [this, if_false, Bool.false_eq_true, qw, leO]
    repeat (split <;> try rfl)
   | succ j =>
    obtain ⟨q, hq⟩ : ∃ q, l.els[j]? = some q := ⟨_, Lz5 (by omega)⟩
    have h2 : (0 : Int) < ((j + 1 : Nat) : Int) := by omega
    have es : pBin .sub (I6 ((j + 1 : Nat) : Int)) (I6 1) = some (I6 (((j + 1 : Nat) : Int) - 1)) := zhL;have e1 : ((j + 1 : Nat) : Int) - 1 = (j : Int) := by omega
    rw [e1] at es;have ix : pIdx 3 (enL 3 enS l) (I6 (j : Int)) = some (enS q) := by rw [u4, hq]; rfl
    simp only [qw, hq, Option.map_some, leO, h2, if_true, es, zb, ix, enS, vS, wR, q9, zw, decide_eq_true_eq]
    repeat (split <;> try rfl)
  have hp : qw l.els (i + 1) = some g.hi := by simp only [qw, yL h, Option.map_some]
  unfold vV;by_cases a1 : min g.lo g.hi < x.low
  ·rw [if_pos a1] at body ⊢; rw [zD body]; rfl
  rw [if_neg a1] at body ⊢;by_cases a2 : x.high < max g.lo g.hi
  ·rw [if_pos a2] at body ⊢; rw [zD body]; rfl
  rw [if_neg a2] at body ⊢;by_cases a3 : g.hi < g.lo
  ·rw [if_pos a3] at body ⊢; rw [zD body]; rfl
  rw [if_neg a3] at body ⊢;by_cases a4 : leO g.lo (qw l.els i) = true
  ·rw [if_pos a4] at body ⊢; rw [zD body]; rfl
  rw [if_neg a4] at body ⊢;by_cases a5 : yM x.ranks.els.length g.draws.els ≠ 0
  ·rw [if_pos a5] at body ⊢; rw [zD body]; unfold errX; rw [if_pos a5]
  rw [if_neg a5] at body ⊢;rw [z5 body, ih (i + 1) (z6 h), hp]
def w8 (x : Place) (s : Stop) : Int :=
 if vY x ≠ 0 then vY x else if !isName s.name then 8 else if wi s.num s.den ≠ 0 then wi s.num s.den
 else if s.segs.els.length = 0 then 13 else if 12 < s.segs.els.length then 4 else vV x s.segs.els none
theorem t134 (k : Nat) (x : Place) (s : Stop) (hx : x.ok) (hs : s.ok) : D (k + 7) 134 [SA (enP x), SA (wn s)] = some (S1 (I6 (w8 x s))) := by
 have c1 := t179 k x hx;have l := l134 (k + 3) x s.segs hs.len hs.segs s.segs.els 0 rfl;unfold enP at c1 ⊢;unfold wn;rw [D134];unfold P134 w8;simp only [c1, t74, t130, ye, yz, zb, zw, xn, zL, wt, yj];by_cases h1 : vY x = 0
 ·simp only [h1];cases isName s.name with
  | false => rfl
  | true =>
   by_cases h2 : wi s.num s.den = 0
   ·simp only [h2];by_cases h3 : s.segs.els.length = 0
    ·simp [h3]
    ·have h4 : ¬ ((s.segs.els.length : Int) = 0) := by omega
     by_cases h5 : 12 < s.segs.els.length
     ·have h6 : (12 : Int) < (s.segs.els.length : Int) := by omega
      simp [h3, h5, h6]
     ·have h6 : ¬ ((12 : Int) < (s.segs.els.length : Int)) := by omega
      rw [show (I6 0 : DV) = I6 ((0 : Nat) : Int) from rfl, l, show qw s.segs.els 0 = none from rfl]
      unfold errX;by_cases h7 : vV x s.segs.els none = 0
      ·simp [h3, h5, h6, h7]
      ·simp [h3, h5, h6, h7]
   ·simp [h2]
 ·simp [h1]
end Go.Proofs.Tryz.Kn
end
section
namespace Go.Proofs.Tryz.Kn
open Go Go.CE Go.PE
def enF (p : Int × Int) : List DV := [I6 p.1, I6 p.2]
def feetA : List (Int × Int) := [(8, 1), (4, 1), (16, 1), (2, 1), (8, 3), (8, 5), (4, 3), (1, 1), (32, 1), (16, 3), (16, 5), (32, 3), (8, 7), (2, 3), (1, 2), (64, 1)]
def feetB : List (Int × Int) := [(8, 1), (4, 1), (16, 1), (8, 3), (2, 1), (8, 5)]
def fA (n : Nat) : Int × Int := (feetA[n % 16]?).getD (8, 1)
def fB (n : Nat) : Int × Int := (feetB[n % 6]?).getD (8, 1)
theorem znE (n : Nat) : feetA[n % 16]? = some (fA n) := by
 unfold fA;rw [Lz5 (show n % 16 < feetA.length by rw [show feetA.length = 16 from rfl]; exact Nat.mod_lt _ (by omega))]
 rfl
theorem znC (n : Nat) : feetB[n % 6]? = some (fB n) := by
 unfold fB;rw [Lz5 (show n % 6 < feetB.length by rw [show feetB.length = 6 from rfl]; exact Nat.mod_lt _ (by omega))]
 rfl
theorem znD (n : Nat) : fA n ∈ feetA := Lz3 (znE n)
theorem zce (n : Nat) : fB n ∈ feetB := Lz3 (znC n)
theorem zrl : ∀ p ∈ feetA, wi p.1 p.2 = 0 := by
 have : (feetA.all fun p => wi p.1 p.2 == 0) = true := by kernel_rfl
 intro p hp
 simpa using List.all_eq_true.1 this p hp
theorem zrk : ∀ p ∈ feetB, wi p.1 p.2 = 0 := by
 have : (feetB.all fun p => wi p.1 p.2 == 0) = true := by kernel_rfl
 intro p hp
 simpa using List.all_eq_true.1 this p hp
theorem fchk : (shSums.all fun s => match xA s.g s.args ⟨.z, .nil⟩ bSums with | some v => eqA v s.res | none => false) = true := by kernel_rfl
theorem ztF {s : CE.Sum} (hs : s ∈ shSums) {xs : List DA} {d : DA} (hg : ([198, 199, 200, 201] : List Nat).any (Nat.beq s.g) = true) (ha : avs xs = some s.args) (hd : ofA s.res = some d) : B s.g xs = some d := by
 have h := List.all_eq_true.1 fchk s hs;split at h
 ·rename_i v hv;have := zhn h;subst this;unfold B sumB;have : (bIds.any (Nat.beq s.g)) = true := by
   simp only [bIds, List.any_cons, List.any_nil, Bool.or_false, Bool.or_eq_true] at hg ⊢;rcases hg with h | h | h | h <;> simp [h]
  rw [this, cond_true, ha];simp only [hv, hd]
 ·cases h
theorem zlp (k : Nat) {s : CE.Sum} (hs : s ∈ shSums) {xs : List DA} {d : DA} (hg : ([198, 199, 200, 201] : List Nat).any (Nat.beq s.g) = true) (ha : avs xs = some s.args) (hd : ofA s.res = some d) : D k s.g xs = some d := zeD (ztF hs hg ha hd)
theorem zo0 {n : Nat} (h : n ∈ pows) : powS n ∈ shSums := by unfold shSums; exact List.mem_append_left _ (List.mem_append_left _ (List.mem_append_left _ (List.mem_map_of_mem h)))
theorem mem_of {n : Nat} (h : n ∈ pows) : ofS n ∈ shSums := by unfold shSums; exact List.mem_append_left _ (List.mem_append_left _ (List.mem_append_right _ (List.mem_map_of_mem h)))
theorem zke {x : Nat × Nat} (h : x ∈ dens) {s : CE.Sum} (hs : s ∈ y6 x) : s ∈ shSums := by unfold shSums; exact List.mem_append_left _ (List.mem_append_right _ (List.mem_flatMap.2 ⟨x, h, hs⟩))
theorem zo1 {x : Nat × Nat × Nat} (h : x ∈ prs) {s : CE.Sum} (hs : s ∈ yd x) : s ∈ shSums := by unfold shSums; exact List.mem_append_right _ (List.mem_flatMap.2 ⟨x, h, hs⟩)
theorem e199 (k : Nat) {n : Nat} (h : n ∈ pows) : D k 199 [S1 (I6 (n : Int))] = some (S1 (St (dec n))) := zlp k (mem_of h) rfl rfl rfl
theorem e198 (k : Nat) {n : Nat} (h : n ∈ pows) : D k 198 [S1 (St (dec n)), S1 (I6 24)] = some (.tup [.one (St (dec (n ^ 24))), .one (I6 0)]) := zlp k (zo0 h) rfl rfl rfl
theorem ztv (k : Nat) {x : Nat × Nat} (h : x ∈ dens) : D k 200 [S1 (St (dec (x.1 ^ 24))), S1 (.str ⟨#[50]⟩)] = some (S1 (St (dec (lim x.1 0)))) := by
 have e : x.1 ^ 24 * 2 = lim x.1 0 := by unfold lim; omega
 rw [← e];exact zlp k (zke h (List.mem_cons_self ..)) rfl rfl rfl
theorem ztu (k : Nat) {x : Nat × Nat} (h : x ∈ dens) {j : Nat} (hj : j < x.2) : D k 200 [S1 (St (dec (lim x.1 j))), S1 (.str ⟨#[52]⟩)] = some (S1 (St (dec (lim x.1 (j + 1))))) := by
 have e : lim x.1 j * 4 = lim x.1 (j + 1) := by
  show 2 * x.1 ^ 24 * 4 ^ j * 4 = 2 * x.1 ^ 24 * 4 ^ (j + 1);rw [Nat.mul_assoc (2 * x.1 ^ 24), ← Nat.pow_succ]
 rw [← e];exact zlp k (zke h (List.mem_cons_of_mem _ (List.mem_map.2 ⟨j, List.mem_range.2 hj, rfl⟩))) rfl rfl rfl
theorem e201 (k : Nat) {x : Nat × Nat × Nat} (h : x ∈ prs) {j : Nat} (hj : j ≤ x.2.2) : D k 201 [S1 (St (dec (x.1 ^ 24))), S1 (St (dec (lim x.2.1 j)))] = some (S1 (I6 (cmpI (x.1 ^ 24) (lim x.2.1 j)))) :=
 zlp k (zo1 h (List.mem_map.2 ⟨j, List.mem_range.2 (by omega), rfl⟩)) rfl rfl rfl
def upN : Nat → Nat → Nat → Int → Nat × Int
 | 0, num, _, n => (num, n)
 | f + 1, num, den, n => if num < den then upN f (num * 2) den (n - 12) else (num, n)
def dnN : Nat → Nat → Nat → Int → Nat × Int
 | 0, _, den, n => (den, n)
 | f + 1, num, den, n => if 2 * den ≤ num then dnN f num (den * 2) (n + 12) else (den, n)
theorem zs3 (den : Nat) (hd : den ≤ 1000000) : ∀ (f num : Nat) (n : Int), den ≤ (upN f num den n).1 → -1000000 ≤ n - 12 * (f : Int) → n ≤ 1000000 →
  ya (zcp (I6 (den : Int))) [I6 (num : Int), I6 n] [] = some (.exit 0, [I6 ((upN f num den n).1 : Int), I6 (upN f num den n).2], []) := by
 intro f
 induction f with
 | zero =>
  intro num n h _ _;have h : den ≤ num := h;have : decide ((num : Int) < (den : Int)) = false := x9 h;refine zE ?_;simp only [zcp, zJ, y5, zt, zb, this, zw, upN];rfl
 | succ f ih =>
  intro num n h h2 h3;unfold upN at h ⊢;by_cases hc : num < den
  ·rw [if_pos hc] at h ⊢;have h1 : decide ((num : Int) < (den : Int)) = true := lt_i hc;have e1 : pBin .mul (I6 (num : Int)) (I6 2) = some (I6 ((num * 2 : Nat) : Int)) := by
    rw [show ((num * 2 : Nat) : Int) = (num : Int) * 2 by omega]
    exact zft (by omega) (by omega)
   have e2 : pBin .sub (I6 n) (I6 12) = some (I6 (n - 12)) := zhL;have body : zcp (I6 (den : Int)) [I6 (num : Int), I6 n] [] = some (.normal, [I6 ((num * 2 : Nat) : Int), I6 (n - 12)], []) := by
    simp only [zcp, zJ, y5, zt, zb, h1, zw, if_true, e1, e2]
   rw [z5 body];exact ih _ _ h (by omega) (by omega)
  ·rw [if_neg hc];have : decide ((num : Int) < (den : Int)) = false := x9 (by omega)
   refine zE ?_;simp only [zcp, zJ, y5, zt, zb, this, zw];rfl
theorem zs5 (a : DV) (num : Nat) (hd : num ≤ 1000000) : ∀ (f den : Nat) (n : Int), num < 2 * (dnN f num den n).1 → n + 12 * (f : Int) ≤ 1000000 → -1000000 ≤ n → 0 < den → den ≤ 1000000 →
  ya (qt [I6 (num : Int), a]) [I6 (den : Int), I6 n] [] = some (.exit 2, [I6 ((dnN f num den n).1 : Int), I6 (dnN f num den n).2], []) := by
 intro f
 induction f with
 | zero =>
  intro den n h _ _ _ h5;have h : num < 2 * den := h;have e1 : pBin .mul (I6 2) (I6 (den : Int)) = some (I6 ((2 * den : Nat) : Int)) := by
   rw [show ((2 * den : Nat) : Int) = 2 * (den : Int) by omega]
   exact zft (by omega) (by omega)
  have : decide (((2 * den : Nat) : Int) ≤ (num : Int)) = false := decide_eq_false (by omega)
  refine zE ?_;simp only [qt, zJ, y5, e1, u5, zb, this, zw, dnN];rfl
 | succ f ih =>
  intro den n h h2 h3 h4 h5;unfold dnN at h ⊢;have e1 : pBin .mul (I6 2) (I6 (den : Int)) = some (I6 ((2 * den : Nat) : Int)) := by
   rw [show ((2 * den : Nat) : Int) = 2 * (den : Int) by omega]
   exact zft (by omega) (by omega)
  by_cases hc : 2 * den ≤ num
  ·rw [if_pos hc] at h ⊢;have h1 : decide (((2 * den : Nat) : Int) ≤ (num : Int)) = true := decide_eq_true (by omega)
   have e3 : pBin .mul (I6 (den : Int)) (I6 2) = some (I6 ((den * 2 : Nat) : Int)) := by
    rw [show ((den * 2 : Nat) : Int) = (den : Int) * 2 by omega]
    exact zft (by omega) (by omega)
   have e2 : pBin .add (I6 n) (I6 12) = some (I6 (n + 12)) := xa;have body : qt [I6 (num : Int), a] [I6 (den : Int), I6 n] [] = some (.normal, [I6 ((den * 2 : Nat) : Int), I6 (n + 12)], []) := by
    simp only [qt, zJ, y5, e1, u5, zb, h1, zw, if_true, e3, e2]
   rw [z5 body];exact ih _ _ h (by omega) (by omega) (by omega) (by omega)
  ·rw [if_neg hc];have : decide (((2 * den : Nat) : Int) ≤ (num : Int)) = false := decide_eq_false (by omega)
   refine zE ?_;simp only [qt, zJ, y5, e1, u5, zb, this, zw];rfl
theorem zoH : (prs.all fun x => (List.range x.2.2).all (fun j => Nat.ble (Nat.succ (lim x.2.1 j)) (x.1 ^ 24)) && Nat.ble (x.1 ^ 24) (lim x.2.1 x.2.2)) = true := by kernel_rfl
theorem zjt : (prs.all fun x => dens.any (fun y => Nat.beq y.1 x.2.1 && Nat.ble x.2.2 y.2) && pows.any (Nat.beq x.1) && pows.any (Nat.beq x.2.1)) = true := by kernel_rfl
theorem zdC {n : Nat} {l : List Nat} (h : l.any (Nat.beq n) = true) : n ∈ l := by
 obtain ⟨y, hy, e⟩ := List.any_eq_true.1 h;rw [Lz1 e]; exact hy
theorem zs6 (k : Nat) (x : Nat × Nat × Nat) (hx : x ∈ prs) (n : Int) (h1 : -1000000 ≤ n) (h2 : n ≤ 1000000) (hm : x.2.2 ≤ 100) : ∀ (r j : Nat), j + r = x.2.2 →
  ya (zbu (D k) [.one (St (dec (x.1 ^ 24))), .one (I6 0)]) [St (dec (lim x.2.1 j)), I6 (n + (j : Int))] [] = some (.exit 4, [I6 (n + (x.2.2 : Int))], []) := by
 have hc := List.all_eq_true.1 zoH x hx;have hdn := List.all_eq_true.1 zjt x hx;simp only [LzC] at hc hdn;obtain ⟨y, hy, ey⟩ := List.any_eq_true.1 hdn.1.1;simp only [LzC] at ey;have ey1 : y.1 = x.2.1 := Lz1 ey.1;have ey2 := Lz4 ey.2;intro r
 induction r with
 | zero =>
  intro j hj;have hj : j = x.2.2 := by omega
  subst hj;have c := e201 k hx (LzB _);have hle := Lz4 hc.2;have hs : decide ((0 : Int) < cmpI (x.1 ^ 24) (lim x.2.1 x.2.2)) = false := by
   unfold cmpI;rw [show Nat.ble (Nat.succ (lim x.2.1 x.2.2)) (x.1 ^ 24) = false from by cases hb : Nat.ble (Nat.succ (lim x.2.1 x.2.2)) (x.1 ^ 24) with | false => rfl | true => have := Lz4 hb; omega]
   cases Nat.ble (Nat.succ (x.1 ^ 24)) (lim x.2.1 x.2.2) <;> rfl
  refine zE ?_;simp only [zbu, zJ, y5, zcj, za9, c, ye, yj, zb, hs, zw];rfl
 | succ r ih =>
  intro j hj;have c := e201 k hx (show j ≤ x.2.2 by omega)
  have m := ztu k hy (show j < y.2 by omega)
  rw [ey1] at m;have hlt := Lz4 (List.all_eq_true.1 hc.1 j (List.mem_range.2 (by omega)))
  have hs : decide ((0 : Int) < cmpI (x.1 ^ 24) (lim x.2.1 j)) = true := by
   unfold cmpI;rw [Nat.ble_eq_true_of_le hlt]; rfl
  have ea : pBin .add (I6 (n + (j : Int))) (I6 1) = some (I6 (n + ((j + 1 : Nat) : Int))) := by
   rw [show n + ((j + 1 : Nat) : Int) = n + (j : Int) + 1 by omega]
   exact xa
  have body : zbu (D k) [.one (St (dec (x.1 ^ 24))), .one (I6 0)] [St (dec (lim x.2.1 j)), I6 (n + (j : Int))] [] = some (.normal, [St (dec (lim x.2.1 (j + 1))), I6 (n + ((j + 1 : Nat) : Int))], []) := by
   simp only [zbu, zJ, y5, zcj, za9, c, ye, yj, zb, hs, zw, if_true, ea, m]
  rw [z5 body];exact ih (j + 1) (by omega)
def numF (f g : Int × Int) : Nat := (g.1 * f.2).toNat
def denF (f g : Int × Int) : Nat := (g.2 * f.1).toNat
def shU (f g : Int × Int) : Nat × Int := upN 20 (numF f g) (denF f g) 0
def shD (f g : Int × Int) : Nat × Int := dnN 20 (shU f g).1 (denF f g) (shU f g).2
def shM (f g : Int × Int) : Nat := ((prs.find? fun x => Nat.beq x.1 (shU f g).1 && Nat.beq x.2.1 (shD f g).1).map fun x => x.2.2).getD 0
def shf (f g : Int × Int) : Int := (shD f g).2 + (shM f g : Int)
def zqp (f g : Int × Int) : Bool :=
 decide (0 ≤ g.1 * f.2) && decide (0 < g.2 * f.1) && Nat.ble (denF f g) (shU f g).1 && Nat.ble (Nat.succ (shU f g).1) (2 * (shD f g).1) && (prs.any fun x => Nat.beq x.1 (shU f g).1 && Nat.beq x.2.1 (shD f g).1 && Nat.beq x.2.2 (shM f g))
 && Nat.ble (denF f g) 1000000 && Nat.ble (numF f g) 1000000 && Nat.ble (shU f g).1 1000000 && Nat.ble (shM f g) 100 && decide (-1000 ≤ (shU f g).2) && decide ((shU f g).2 ≤ 1000) && decide (-1000 ≤ (shD f g).2) && decide ((shD f g).2 ≤ 1000) && decide (-100 ≤ shf f g) && decide (shf f g ≤ 100)
theorem zqn : (feetB.all fun f => feetA.all fun g => zqp f g) = true := by kernel_rfl
structure ShOk (f g : Int × Int) : Prop where
 a : 0 ≤ g.1 * f.2
 b : 0 < g.2 * f.1
 c : denF f g ≤ (shU f g).1
 d : (shU f g).1 < 2 * (shD f g).1
 e : ∃ x ∈ prs, x.1 = (shU f g).1 ∧ x.2.1 = (shD f g).1 ∧ x.2.2 = shM f g
 f1 : denF f g ≤ 1000000
 f2 : numF f g ≤ 1000000
 f3 : (shU f g).1 ≤ 1000000
 f4 : shM f g ≤ 100
 g1 : -1000 ≤ (shU f g).2
 g2 : (shU f g).2 ≤ 1000
 g3 : -1000 ≤ (shD f g).2
 g4 : (shD f g).2 ≤ 1000
 h1 : -100 ≤ shf f g
 h2 : shf f g ≤ 100
theorem zi5 {f g : Int × Int} (hf : f ∈ feetB) (hg : g ∈ feetA) : ShOk f g := by
 have h := List.all_eq_true.1 (List.all_eq_true.1 zqn f hf) g hg;unfold zqp at h;simp only [LzC, decide_eq_true_eq] at h;obtain ⟨⟨⟨⟨⟨⟨⟨⟨⟨⟨⟨⟨⟨⟨a, b⟩, c⟩, d⟩, e⟩, f1⟩, f2⟩, f3⟩, f4⟩, g1⟩, g2⟩, g3⟩, g4⟩, h1⟩, h2⟩ := h;obtain ⟨x, hx, hq⟩ := List.any_eq_true.1 e;simp only [LzC] at hq;exact ⟨a, b, Lz4 c, Lz4 d, ⟨x, hx, Lz1 hq.1.1, Lz1 hq.1.2, Lz1 hq.2⟩, Lz4 f1, Lz4 f2, Lz4 f3, Lz4 f4, g1, g2, g3, g4, h1, h2⟩
theorem zi4 (f g : Int × Int) (hf : f ∈ feetB) (hg : g ∈ feetA) : -100 ≤ shf f g ∧ shf f g ≤ 100 := ⟨(zi5 hf hg).h1, (zi5 hf hg).h2⟩
theorem t155 (k : Nat) (f g : Int × Int) (hf : f ∈ feetB) (hg : g ∈ feetA) : D (k + 1) 155 [SA (enF f), SA (enF g)] = some (S1 (I6 (shf f g))) := by
 have H := zi5 hf hg;obtain ⟨x, hx, x1, x2, x3⟩ := H.e;have a1 : g.1 * f.2 = ((numF f g : Nat) : Int) := by unfold numF; have := H.a; omega
 have a2 : g.2 * f.1 = ((denF f g : Nat) : Int) := by unfold denF; have := H.b; omega
 have hb := H.b;rw [a2] at hb;have b1 := H.f1; have b2 := H.f2; have b3 := H.f3; have b4 := H.f4; have c1 := H.g1; have c2 := H.g2; have c3 := H.g3; have c4 := H.g4;have m1 : pBin .mul (I6 g.1) (I6 f.2) = some (I6 ((numF f g : Nat) : Int)) := by rw [← a1]; exact zft (by omega) (by omega)
 have m2 : pBin .mul (I6 g.2) (I6 f.1) = some (I6 ((denF f g : Nat) : Int)) := by rw [← a2]; exact zft (by omega) (by omega)
 have lu := zs3 (denF f g) b1 20 (numF f g) 0 H.c (by omega) (by omega)
 have ld := zs5 (I6 (shU f g).2) (shU f g).1 b3 20 (denF f g) (shU f g).2 H.d (by omega) (by omega) (by omega) b1
 have lc := zs6 k x hx (shD f g).2 (by omega) (by omega) (by omega) x.2.2 0 (by omega)
 have hdn := List.all_eq_true.1 zjt x hx;simp only [LzC] at hdn;obtain ⟨y, hy, ey⟩ := List.any_eq_true.1 hdn.1.1;simp only [LzC] at ey;have ey1 : y.1 = x.2.1 := Lz1 ey.1;have o1 := e199 k (zdC hdn.1.2);have p1 := e198 k (zdC hdn.1.2);have o2 := e199 k (zdC hdn.2);have p2 := e198 k (zdC hdn.2);have u0 := ztv k hy;rw [ey1] at u0;rw [x1] at o1 p1 lc;rw [x2] at o2 p2 u0 lc;rw [x3] at lc;rw [show (shD f g).2 + ((0 : Nat) : Int) = (shD f g).2 by omega] at lc
 have hU : upN 20 (numF f g) (denF f g) 0 = shU f g := rfl;have hD : dnN 20 (shU f g).1 (denF f g) (shU f g).2 = shD f g := rfl;rw [hU] at lu;rw [hD] at ld;unfold enF;rw [D155];unfold P155;have bt : ∀ {β : Type} (a b : DV) (K : List DS → Option β), bT [none, none] (some (.tup [.one a, .one b])) K = K [.one a, .one b] := fun _ _ _ => rfl
 simp only [m1, m2, zb];rw [lu];simp only [y2, Nat.beq_refl, cond_true, zJ, y5];rw [ld];simp only [y2, Nat.beq_refl, cond_true, zJ, y5, o1, o2, ye, p1, p2, bt, zcj, za9, u0];rw [lc];rfl
theorem t154 (k : Nat) (f g : Int × Int) (hf : f ∈ feetB) (hg : g ∈ feetA) : D (k + 4) 154 [SA (enF f), SA (enF g)] = some (S1 (I6 0)) := by
 have c1 := t130 k f.1 f.2;have c2 := t130 k g.1 g.2;rw [zrk f hf] at c1;rw [zrl g hg] at c2;unfold enF;rw [D154];unfold P154;simp only [c1, c2, ye, yz, zb, zw];rfl
theorem t102 (k : Nat) (f g : Int × Int) (hf : f ∈ feetB) (hg : g ∈ feetA) : D (k + 5) 102 [SA (enF f), SA (enF g)] = some (.tup [.one (I6 (shf f g)), .one (I6 0)]) := by
 have c1 := t154 k f g hf hg;have c2 := t155 (k + 3) f g hf hg;unfold enF at c1 c2 ⊢;rw [D102];unfold P102;simp only [c1, c2, ye, yz, zb, zw];rfl
end Go.Proofs.Tryz.Kn
end
section
namespace Go.Proofs.Tryz.Kn
open Go Go.CE Go.PE
def eqB (a b : ByteArray) : Bool := a.data.toList == b.data.toList
def enN (s : ByteArray) : List DV := [St s, Bo true]
theorem zkW (a b : ByteArray) : eqDS (.inl 2) (.one (St a)) (.one (St b)) = some (eqB a b) := rfl
theorem je (s : ByteArray) : ∀ ns : List ByteArray, zdd (.inl 2) 1048576 (.one (St s)) (ns.map enN) = some (if ns.any (eqB s) = true then some (.one (Bo true)) else none)
 | [] => rfl
 | n :: ns => by
  have e : eqDS (.inl 2) (.one (St s)) (kD 1048576 (enN n)) = some (eqB s n) := rfl;have v : vD 1048576 (enN n) = .one (Bo true) := rfl;rw [List.map_cons, zdd, e, v, je s ns, List.any_cons];by_cases hq : eqB s n = true
  ·rw [hq]; rfl
  ·rw [show eqB s n = false by simpa using hq]; rfl
theorem j0 (s : ByteArray) : ∀ ns : List ByteArray, ns.any (eqB s) = false → putP (.inl 2) 1048576 (.one (St s)) [St s, Bo true] (ns.map enN) = some ((ns ++ [s]).map enN)
 | [], _ => rfl
 | n :: ns, h => by
  simp only [List.any_cons, Bool.or_eq_false_iff] at h;have e : eqDS (.inl 2) (.one (St s)) (kD 1048576 (enN n)) = some (eqB s n) := rfl;simp only [List.map_cons, putP, e, h.1, j0 s ns h.2];rfl
theorem zo5 (b : Bool) : dsO (lkD (.one (Bo false)) (if b = true then some (DS.one (Bo true)) else none)) = Bo b := by cases b <;> rfl
structure Cpl where
 name : ByteArray
 src : Int
 dst : Int
 shift : Int
 thr : Bool
def enC (c : Cpl) : List DV := [St c.name, I6 c.src, I6 c.dst, I6 c.shift, Bo c.thr]
def enK (k : Int × Int) : List DV := [I6 k.1, I6 k.2]
theorem t136 (k : Nat) (x c : Cpl) : D (k + 1) 136 [SA (enC x), S1 (.fp (enC c) 0)] = some (S1 (Bo (eqB x.name c.name))) := by
 unfold enC;rw [D136];rfl
theorem l181 (k : Nat) (c : Cpl) (l : Sl Cpl) (hl : l.els.length ≤ 9223372036854775807) : ∀ (r : List Cpl) (i : Nat), l.els.drop i = r →
  ya (zeV (D (k + 1)) (I6 (l.els.length : Int)) (enL 5 enC l) (.fn 136 [enC c])) [I6 (i : Int)] [] = some (found (vi (fun x => eqB x.name c.name) r i)) := by
 intro r
 induction r with
 | nil =>
  intro i h;refine zE ?_;simp only [zeV, zJ, zt, zb, x9 (ym h), zw];rfl
 | cons x r ih =>
  intro i h;have h1 := yO h;have ea : pBin .add (I6 (i : Int)) (I6 1) = some (I6 ((i + 1 : Nat) : Int)) := xa;have cx : appF (D (k + 1)) (.fn 136 [enC c]) [SA [atD (enC x) 0, atD (enC x) 1, atD (enC x) 2, atD (enC x) 3, atD (enC x) 4]] = some (S1 (Bo (eqB x.name c.name))) := t136 k x c;have body : zeV (D (k + 1)) (I6 (l.els.length : Int)) (enL 5 enC l) (.fn 136 [enC c]) [I6 (i : Int)] [] = some (if eqB x.name c.name then (.ret, [I6 (i : Int)], []) else (.normal, [I6 ((i + 1 : Nat) : Int)], [])) := by
   simp only [zeV, zJ, zt, zb, lt_i h1, zw, if_true, yb h, cx, ye, ea];cases eqB x.name c.name <;> rfl
  cases hc : eqB x.name c.name with
  | true => rw [hc] at body; rw [zD body]; simp [vi, hc, found]
  | false => rw [hc] at body; rw [z5 body, ih (i + 1) (z6 h)]; simp [vi, hc]
theorem t135 (k : Nat) (c : Cpl) (l : Sl Cpl) (hl : l.els.length ≤ 9223372036854775807) : D (k + 3) 135 [S1 (enL 5 enC l), S1 (.fn 136 [enC c])] = some (S1 (Bo (l.els.any fun x => eqB x.name c.name))) := by
 have e : D (k + 2) 181 [S1 (enL 5 enC l), S1 (.fn 136 [enC c])] = some (S1 (I6 (match vi (fun x => eqB x.name c.name) l.els 0 with | some i => (i : Int) | none => -1))) := by
  rw [D181];unfold P181;have := l181 k c l hl l.els 0 rfl;simp only [zL, zb];rw [show (I6 0 : DV) = I6 ((0 : Nat) : Int) from rfl, this]
  cases vi (fun x => eqB x.name c.name) l.els 0 <;> rfl
 rw [D135];unfold P135;rw [e, ← wV (fun x => eqB x.name c.name) l.els 0]
 cases vi (fun x => eqB x.name c.name) l.els 0 with
 | none => rfl
 | some i =>
  have : (0 : Int) ≤ (i : Int) := by omega
  simp [this]
def zf1 (n : Nat) : List Cpl → List Cpl → Int
 | _, [] => 0
 | p, c :: r =>
  if isName c.name = false then 8 else if p.any (fun x => eqB x.name c.name) = true then 9 else if c.src < 0 then 10 else if (n : Int) ≤ c.src then 10 else if c.dst < 0 then 10 else if (n : Int) ≤ c.dst then 10
  else if c.shift < -127 then 3 else if 127 < c.shift then 3 else if c.src = c.dst ∧ c.shift = 0 then 7 else zf1 n (p ++ [c]) r
def zhu (ks : List (Int × Int)) (l : List Cpl) : Int :=
 if 8 < ks.length then 4 else if 40 < l.length then 4 else if ks.any (fun k => right k.1 k.2 != 0) = true then 23 else zf1 ks.length [] l
theorem l78 (k : Nat) (ks : Sl (Int × Int)) (l : List Cpl) (hl : l.length ≤ 9223372036854775807) : ∀ (r : List Cpl) (i : Nat), l.drop i = r →
  ya (zeR (D (k + 3)) (I6 (l.length : Int)) (enL 5 enC (some l)) (enL 2 enK ks)) [I6 (i : Int)] [] = some (errX 2 (zf1 ks.els.length (l.take i) r)) := by
 intro r
 induction r with
 | nil =>
  intro i h;refine zE ?_;simp only [zeR, zJ, zt, zb, x9 (ym h), zw];rfl
 | cons x r ih =>
  intro i h;have h1 := yO h;have ea : pBin .add (I6 (i : Int)) (I6 1) = some (I6 ((i + 1 : Nat) : Int)) := xa;have ix : pIdx 5 (enL 5 enC (some l)) (I6 (i : Int)) = some (enC x) := yb (v := some l) h _;have sl : uw 5 (enL 5 enC (some l)) none (some (I6 (i : Int))) = some (enL 5 enC (some (l.take i))) := zay (by omega)
  have c := t135 k x (some (l.take i)) (by simp only [Sl.els, Option.getD_some, List.length_take]; omega)
  have cn := t74 (k + 1) x.name;simp only [enC, yV] at c;have body : zeR (D (k + 3)) (I6 (l.length : Int)) (enL 5 enC (some l)) (enL 2 enK ks) [I6 (i : Int)] [] =
    some (if isName x.name = false then (.ret, [I6 8], []) else if (l.take i).any (fun y => eqB y.name x.name) = true then (.ret, [I6 9], []) else if x.src < 0 then (.ret, [I6 10], []) else if (ks.els.length : Int) ≤ x.src then (.ret, [I6 10], [])
     else if x.dst < 0 then (.ret, [I6 10], []) else if (ks.els.length : Int) ≤ x.dst then (.ret, [I6 10], []) else if x.shift < -127 then (.ret, [I6 3], []) else if 127 < x.shift then (.ret, [I6 3], [])
     else if x.src = x.dst ∧ x.shift = 0 then (.ret, [I6 7], []) else (.normal, [I6 ((i + 1 : Nat) : Int)], [])) := by
   simp only [zeR, zJ, zt, zb, lt_i h1, zw, if_true, ix, enC, wR, vS, zL, u5, yj, wt, sl, c, cn, ye, ztC, xn, ea, decide_eq_true_eq];cases isName x.name with
   | false => simp
   | true =>
    simp only [Bool.not_true, Bool.false_eq_true, if_false, Bool.true_eq_false]
    repeat' (split <;> try rfl)
    all_goals (first | rfl | simp_all)
  have hn : l.take (i + 1) = l.take i ++ [x] := by rw [List.take_add_one, yL h]; rfl
  unfold zf1;by_cases a0 : isName x.name = false
  ·rw [if_pos a0] at body ⊢; rw [zD body]; rfl
  rw [if_neg a0] at body ⊢;by_cases a1 : (l.take i).any (fun y => eqB y.name x.name) = true
  ·rw [if_pos a1] at body ⊢; rw [zD body]; rfl
  rw [if_neg a1] at body ⊢;by_cases a2 : x.src < 0
  ·rw [if_pos a2] at body ⊢; rw [zD body]; rfl
  rw [if_neg a2] at body ⊢;by_cases a3 : (ks.els.length : Int) ≤ x.src
  ·rw [if_pos a3] at body ⊢; rw [zD body]; rfl
  rw [if_neg a3] at body ⊢;by_cases a4 : x.dst < 0
  ·rw [if_pos a4] at body ⊢; rw [zD body]; rfl
  rw [if_neg a4] at body ⊢;by_cases a5 : (ks.els.length : Int) ≤ x.dst
  ·rw [if_pos a5] at body ⊢; rw [zD body]; rfl
  rw [if_neg a5] at body ⊢;by_cases a6 : x.shift < -127
  ·rw [if_pos a6] at body ⊢; rw [zD body]; rfl
  rw [if_neg a6] at body ⊢;by_cases a7 : 127 < x.shift
  ·rw [if_pos a7] at body ⊢; rw [zD body]; rfl
  rw [if_neg a7] at body ⊢;by_cases a8 : x.src = x.dst ∧ x.shift = 0
  ·rw [if_pos a8] at body ⊢; rw [zD body]; rfl
  rw [if_neg a8] at body ⊢;rw [z5 body, ih (i + 1) (z6 h), hn]
theorem lk78 (k : Nat) (ks : Sl (Int × Int)) (hl : ks.els.length ≤ 9223372036854775807) : ∀ (r : List (Int × Int)) (i : Nat), ks.els.drop i = r →
  ya (zlg (D (k + 1)) (I6 (ks.els.length : Int)) (enL 2 enK ks)) [I6 (i : Int)] [] = some (if r.any (fun k => right k.1 k.2 != 0) = true then (.ret, [I6 23], []) else (.exit 0, [], [])) := by
 intro r
 induction r with
 | nil =>
  intro i h;refine zE ?_;simp only [zlg, zJ, zt, zb, x9 (ym h), zw];rfl
 | cons x r ih =>
  intro i h;have h1 := yO h;have ea : pBin .add (I6 (i : Int)) (I6 1) = some (I6 ((i + 1 : Nat) : Int)) := xa;have c := t133 k x.1 x.2;have body : zlg (D (k + 1)) (I6 (ks.els.length : Int)) (enL 2 enK ks) [I6 (i : Int)] [] = some (if right x.1 x.2 = 0 then (.normal, [I6 ((i + 1 : Nat) : Int)], []) else (.ret, [I6 23], [])) := by
   simp only [zlg, zJ, zt, zb, lt_i h1, zw, if_true, yb h, enK, wR, vS, c, ye, yz, ea];by_cases hz : right x.1 x.2 = 0 <;> simp [hz]
  by_cases hc : right x.1 x.2 = 0
  ·rw [if_pos hc] at body; rw [z5 body, ih (i + 1) (z6 h), List.any_cons, hc]; rfl
  ·rw [if_neg hc] at body; rw [zD body, if_pos (by simp [hc])]
theorem t78 (k : Nat) (ks : Sl (Int × Int)) (l : Sl Cpl) (hk : ks.els.length ≤ 9223372036854775807) (hl : l.els.length ≤ 9223372036854775807) : D (k + 4) 78 [S1 (enL 2 enK ks), S1 (enL 5 enC l)] = some (S1 (I6 (zhu ks.els l.els))) := by
 rw [D78];unfold P78 zhu;have ck := lk78 (k + 2) ks hk ks.els 0 rfl;simp only [zL, zb, yj, zw];rw [show (I6 0 : DV) = I6 ((0 : Nat) : Int) from rfl, ck]
 by_cases h1 : 8 < ks.els.length
 ·have h2 : (8 : Int) < (ks.els.length : Int) := by omega
  simp [h1, h2]
 have h2 : ¬ ((8 : Int) < (ks.els.length : Int)) := by omega
 by_cases h3 : 40 < l.els.length
 ·have h4 : (40 : Int) < (l.els.length : Int) := by omega
  simp [h1, h2, h3, h4]
 have h4 : ¬ ((40 : Int) < (l.els.length : Int)) := by omega
 simp only [h1, h2, h3, h4, decide_false, Bool.false_eq_true, if_false];by_cases h5 : ks.els.any (fun k => right k.1 k.2 != 0) = true
 ·rw [if_pos h5, if_pos h5]; rfl
 rw [if_neg h5, if_neg h5];simp only [y2, Nat.beq_refl, cond_true];cases l with
 | none => rw [zE (id := 2) (L' := []) (M' := []) (by rfl)]; rfl
 | some l =>
  have := l78 k ks l hl l 0 rfl;rw [show Sl.els (some l : Sl Cpl) = l from rfl, this, List.take_zero]
  unfold errX;by_cases h6 : zf1 ks.els.length [] l = 0 <;> simp [h6]
structure Divn where
 name : ByteArray
 pedal : Bool
 low : Int
 high : Int
 stops : Sl Stop
def enV (d : Divn) : List DV := [St d.name, Bo d.pedal, I6 d.low, I6 d.high, enL 4 wn d.stops]
structure Divn.ok (d : Divn) : Prop where
 len : d.stops.els.length ≤ 9223372036854775807
 stops : ∀ s ∈ d.stops.els, s.ok
structure Org where
 name : ByteArray
 ranks : Sl Rank
 divs : Sl Divn
 cpls : Sl Cpl
def enO (o : Org) : List DV := [St o.name, enL 6 enR o.ranks, enL 5 enV o.divs, enL 5 enC o.cpls]
structure Org.ok (o : Org) : Prop where
 rl : o.ranks.els.length ≤ 9223372036854775807
 ranks : ∀ r ∈ o.ranks.els, zbU r
 dl : o.divs.els.length ≤ 9223372036854775807
 divs : ∀ d ∈ o.divs.els, d.ok
 cl : o.cpls.els.length ≤ 9223372036854775807
def jx (x : Place) : List Stop → List ByteArray → Int
 | [], _ => 0
 | s :: r, ns => if w8 x s ≠ 0 then w8 x s else if ns.any (eqB s.name) = true then 9 else jx x r (ns ++ [s.name])
def zhY (id : Nat) (e : Int) (m : List OC) : PX := if e ≠ 0 then (.ret, [I6 e], m) else (.exit id, [], m)
theorem l77 (k : Nat) (x : Place) (hx : x.ok) (l : Sl Stop) (hl : l.els.length ≤ 9223372036854775807) (hs : ∀ s ∈ l.els, s.ok) : ∀ (r : List Stop) (i : Nat) (ns : List ByteArray), l.els.drop i = r →
  ∃ m, ya (zlh (D (k + 7)) (I6 (l.els.length : Int)) (enL 4 wn l) (enL 6 enR x.ranks) (I6 x.low) (I6 x.high)) [I6 (i : Int)] [some (ns.map enN)] = some (zhY 0 (jx x r ns) m) := by
 intro r
 induction r with
 | nil =>
  intro i ns h;refine ⟨[some (ns.map enN)], zE ?_⟩;simp only [zlh, zJ, zt, zb, x9 (ym h), zw];rfl
 | cons s r ih =>
  intro i ns h;have h1 := yO h;have ea : pBin .add (I6 (i : Int)) (I6 1) = some (I6 ((i + 1 : Nat) : Int)) := xa;have c := t134 k x s hx (hs s (Lz3 (yL h)));simp only [enP, wn] at c;have body : ∃ m, zlh (D (k + 7)) (I6 (l.els.length : Int)) (enL 4 wn l) (enL 6 enR x.ranks) (I6 x.low) (I6 x.high) [I6 (i : Int)] [some (ns.map enN)] =
    some (if w8 x s ≠ 0 then (.ret, [I6 (w8 x s)], m) else if ns.any (eqB s.name) = true then (.ret, [I6 9], m) else (.normal, [I6 ((i + 1 : Nat) : Int)], [some ((ns ++ [s.name]).map enN)])) := by
   refine ⟨[some (ns.map enN)], ?_⟩;simp only [zlh, zJ, xN, zt, zb, lt_i h1, zw, if_true, yb h, wn, wR, vS, c, ye, yz, jM, zkW, je, zo5, ea];by_cases hz : w8 x s = 0
   ·cases hb : ns.any (eqB s.name) with
    | true => simp [hz]
    | false => simp [hz, j0 s.name ns hb]
   ·simp [hz]
  obtain ⟨m, body⟩ := body;unfold jx;by_cases a1 : w8 x s ≠ 0
  ·rw [if_pos a1] at body ⊢; exact ⟨m, by rw [zD body]; unfold zhY; rw [if_pos a1]⟩
  rw [if_neg a1] at body ⊢;by_cases a2 : ns.any (eqB s.name) = true
  ·rw [if_pos a2] at body ⊢; exact ⟨m, by rw [zD body]; rfl⟩
  rw [if_neg a2] at body ⊢;rw [z5 body];exact ih (i + 1) _ (z6 h)
def jt (rs : Sl Rank) (d : Divn) : Int := if right d.low d.high ≠ 0 then right d.low d.high else if 60 < d.stops.els.length then 4 else jx ⟨rs, d.low, d.high⟩ d.stops.els []
theorem t77 (k : Nat) (o : Org) (ho : o.ok) (d : Divn) (hd : d.ok) : D (k + 8) 77 [SA (enO o), SA (enV d)] = some (S1 (I6 (jt o.ranks d))) := by
 have hx : Place.ok ⟨o.ranks, d.low, d.high⟩ := ⟨ho.rl, ho.ranks⟩;obtain ⟨m, l⟩ := l77 k ⟨o.ranks, d.low, d.high⟩ hx d.stops hd.len hd.stops d.stops.els 0 [] rfl;have c := t133 (k + 6) d.low d.high;unfold enO enV;rw [D77];unfold P77 jt;simp only [c, ye, yz, zb, zw, zL, yj];by_cases h1 : right d.low d.high = 0
 ·by_cases h2 : 60 < d.stops.els.length
  ·have h3 : (60 : Int) < (d.stops.els.length : Int) := by omega
   simp [h1, h2, h3]
  ·have h3 : ¬ ((60 : Int) < (d.stops.els.length : Int)) := by omega
   simp only [List.map_nil] at l;rw [show (I6 0 : DV) = I6 ((0 : Nat) : Int) from rfl, l]
   unfold zhY;by_cases h4 : jx ⟨o.ranks, d.low, d.high⟩ d.stops.els [] = 0 <;> simp [h1, h2, h3, h4]
 ·simp [h1]
def uv : List Rank → List ByteArray → Int
 | [], _ => 0
 | x :: r, ns => if yI x ≠ 0 then yI x else if ns.any (eqB x.name) = true then 9 else uv r (ns ++ [x.name])
theorem l36 (k : Nat) (l : Sl Rank) (hl : l.els.length ≤ 9223372036854775807) (hs : ∀ s ∈ l.els, zbU s) : ∀ (r : List Rank) (i : Nat) (ns : List ByteArray), l.els.drop i = r →
  ∃ m, ya (zlk (D (k + 5)) (I6 (l.els.length : Int)) (enL 6 enR l)) [I6 (i : Int)] [some (ns.map enN)] = some (zhY 1 (uv r ns) m) := by
 intro r
 induction r with
 | nil =>
  intro i ns h;refine ⟨[some (ns.map enN)], zE ?_⟩;simp only [zlk, zJ, zt, zb, x9 (ym h), zw];rfl
 | cons s r ih =>
  intro i ns h;have h1 := yO h;have ea : pBin .add (I6 (i : Int)) (I6 1) = some (I6 ((i + 1 : Nat) : Int)) := xa;have c := t75 k s (hs s (Lz3 (yL h)));simp only [enR] at c;have body : ∃ m, zlk (D (k + 5)) (I6 (l.els.length : Int)) (enL 6 enR l) [I6 (i : Int)] [some (ns.map enN)] =
    some (if yI s ≠ 0 then (.ret, [I6 (yI s)], m) else if ns.any (eqB s.name) = true then (.ret, [I6 9], m) else (.normal, [I6 ((i + 1 : Nat) : Int)], [some ((ns ++ [s.name]).map enN)])) := by
   refine ⟨[some (ns.map enN)], ?_⟩;simp only [zlk, zJ, xN, zt, zb, lt_i h1, zw, if_true, yb h, enR, wR, vS, c, ye, yz, jM, zkW, je, zo5, ea];by_cases hz : yI s = 0
   ·cases hb : ns.any (eqB s.name) with
    | true => simp [hz]
    | false => simp [hz, j0 s.name ns hb]
   ·simp [hz]
  obtain ⟨m, body⟩ := body;unfold uv;by_cases a1 : yI s ≠ 0
  ·rw [if_pos a1] at body ⊢; exact ⟨m, by rw [zD body]; unfold zhY; rw [if_pos a1]⟩
  rw [if_neg a1] at body ⊢;by_cases a2 : ns.any (eqB s.name) = true
  ·rw [if_pos a2] at body ⊢; exact ⟨m, by rw [zD body]; rfl⟩
  rw [if_neg a2] at body ⊢;rw [z5 body];exact ih (i + 1) _ (z6 h)
def kK (rs : Sl Rank) : List Divn → List ByteArray → Int
 | [], _ => 0
 | d :: r, ns => if isName d.name = false then 8 else if ns.any (eqB d.name) = true then 9 else if jt rs d ≠ 0 then jt rs d else kK rs r (ns ++ [d.name])
def keyOf (d : Divn) : Int × Int := (d.low, d.high)
def grow {α : Type} (l : List α) : Sl α := match l with | [] => none | _ => some l
theorem yA {α : Type} (l : List α) : (grow l).els = l := by cases l <;> rfl
theorem wa {α : Type} (l : List α) (x : α) : grow (l ++ [x]) = some ((grow l).els ++ [x]) := by rw [yA]; cases l <;> rfl
theorem l236 (k : Nat) (o : Org) (ho : o.ok) (hle : o.divs.els.length ≤ 8) : ∀ (r : List Divn) (i : Nat) (ns : List ByteArray), o.divs.els.drop i = r →
  ∃ m, ya (zeT (D (k + 8)) (I6 (o.divs.els.length : Int)) (enL 5 enV o.divs) (St o.name) (enL 6 enR o.ranks) (enL 5 enC o.cpls)) [I6 (i : Int)] [ocL enK (grow ((o.divs.els.take i).map keyOf)), some (ns.map enN)] =
   some (if kK o.ranks r ns ≠ 0 then (.ret, [I6 (kK o.ranks r ns)], m) else (.exit 4, [], [ocL enK (grow (o.divs.els.map keyOf)), m.headD none])) := by
 intro r
 induction r with
 | nil =>
  intro i ns h;refine ⟨[some (ns.map enN)], zE ?_⟩;have : o.divs.els.take i = o.divs.els := List.take_of_length_le (ym h);simp only [zeT, zJ, zt, zb, x9 (ym h), zw, this];rfl
 | cons d r ih =>
  intro i ns h;have h1 := yO h;have ea : pBin .add (I6 (i : Int)) (I6 1) = some (I6 ((i + 1 : Nat) : Int)) := xa;have c := t77 k o ho d (ho.divs d (Lz3 (yL h)));have cn := t74 (k + 6) d.name;simp only [enO, enV] at c;have hn : o.divs.els.take (i + 1) = o.divs.els.take i ++ [d] := by rw [List.take_add_one, yL h]; rfl
  have hlen : ((grow ((o.divs.els.take i).map keyOf)).els).length = i := by rw [yA]; simp; omega
  have ef : fits 16 ((grow ((o.divs.els.take i).map keyOf)).els.length + 1) = true := ug (by decide) (by omega)
  have body : ∃ m, zeT (D (k + 8)) (I6 (o.divs.els.length : Int)) (enL 5 enV o.divs) (St o.name) (enL 6 enR o.ranks) (enL 5 enC o.cpls) [I6 (i : Int)] [ocL enK (grow ((o.divs.els.take i).map keyOf)), some (ns.map enN)] =
    some (if isName d.name = false then (.ret, [I6 8], m) else if ns.any (eqB d.name) = true then (.ret, [I6 9], m) else if jt o.ranks d ≠ 0 then (.ret, [I6 (jt o.ranks d)], m)
     else (.normal, [I6 ((i + 1 : Nat) : Int)], [ocL enK (grow ((o.divs.els.take (i + 1)).map keyOf)), some ((ns ++ [d.name]).map enN)])) := by
   rw [hn, List.map_append, List.map_cons, List.map_nil, wa];simp only [zeT, zJ, xN, qA, zt, zb, lt_i h1, zw, if_true, yb h, enV, wR, vS, c, cn, ye, xn, yz, jM, zkW, je, zo5, ea, ub, List.length_cons, List.length_nil, ef, jH, xU];cases isName d.name with
   | false => exact ⟨[some (ns.map enN)], rfl⟩
   | true =>
    cases hb : ns.any (eqB d.name) with
    | true => exact ⟨[some (ns.map enN)], rfl⟩
    | false =>
     refine ⟨[some ((ns ++ [d.name]).map enN)], ?_⟩;have ee := ua (f := enK) (grow ((o.divs.els.take i).map keyOf)) (keyOf d);rw [← ee];simp only [j0 d.name ns hb, zb];by_cases hz : jt o.ranks d = 0
     ·simp [hz]; rfl
     ·simp [hz]
  obtain ⟨m, body⟩ := body;unfold kK;by_cases a0 : isName d.name = false
  ·simp only [if_pos a0] at body ⊢; exact ⟨m, by rw [zD body]; rfl⟩
  simp only [if_neg a0] at body ⊢;by_cases a1 : ns.any (eqB d.name) = true
  ·simp only [if_pos a1] at body ⊢; exact ⟨m, by rw [zD body]; rfl⟩
  simp only [if_neg a1] at body ⊢;by_cases a2 : jt o.ranks d ≠ 0
  ·simp only [if_pos a2] at body ⊢; exact ⟨m, by rw [zD body]⟩
  simp only [if_neg a2] at body ⊢;rw [z5 body];exact ih (i + 1) _ (z6 h)
def wl (o : Org) : Int :=
 if isName o.name = false then 8 else if 60 < o.ranks.els.length then 4 else if uv o.ranks.els [] ≠ 0 then uv o.ranks.els [] else if o.divs.els.length = 0 then 13 else if 8 < o.divs.els.length then 4
 else if kK o.ranks o.divs.els [] ≠ 0 then kK o.ranks o.divs.els [] else zhu (o.divs.els.map keyOf) o.cpls.els
theorem t36 (k : Nat) (o : Org) (ho : o.ok) : D (k + 9) 36 [SA (enO o)] = some (S1 (I6 (wl o))) := by
 obtain ⟨m, l⟩ := l36 (k + 3) o.ranks ho.rl ho.ranks o.ranks.els 0 [] rfl;have cn := t74 (k + 6) o.name;unfold enO;rw [D36];unfold P36 wl;simp only [cn, ye, xn, zb, zw, zL, yj, wt];cases isName o.name with
 | false => rfl
 | true =>
  by_cases h1 : 60 < o.ranks.els.length
  ·have h2 : (60 : Int) < (o.ranks.els.length : Int) := by omega
   simp [h1, h2]
  have h2 : ¬ ((60 : Int) < (o.ranks.els.length : Int)) := by omega
  simp only [List.map_nil] at l;simp only [h1, h2, decide_false, Bool.not_true, Bool.false_eq_true, if_false, Bool.true_eq_false];rw [show (I6 0 : DV) = I6 ((0 : Nat) : Int) from rfl, l]
  unfold zhY;by_cases h3 : uv o.ranks.els [] ≠ 0
  ·simp only [if_pos h3, zej, zJ]
  simp only [if_neg h3, y2, Nat.beq_refl, cond_true];by_cases h4 : o.divs.els.length = 0
  ·simp [h4]
  have h5 : ¬ ((o.divs.els.length : Int) = ((0 : Nat) : Int)) := by omega
  by_cases h6 : 8 < o.divs.els.length
  ·have h7 : (8 : Int) < (o.divs.els.length : Int) := by omega
   have h8 : ¬ ((o.divs.els.length : Int) = 0) := by omega
   simp [h4, h6, h7]
  have h7 : ¬ ((8 : Int) < (o.divs.els.length : Int)) := by omega
  obtain ⟨m2, l2⟩ := l236 k o ho (by omega) o.divs.els 0 [] rfl
  simp only [List.take_zero, List.map_nil] at l2;rw [show ocL enK (grow ([] : List (Int × Int))) = none from rfl] at l2
  have h9 : ((o.divs.els.length : Int) == 0) = false := by simpa using h4
  simp only [h4, h6, h7, h9, decide_false, Bool.false_eq_true, if_false];rw [l2];by_cases h8 : kK o.ranks o.divs.els [] ≠ 0
  ·simp only [if_pos h8, zej, zJ]
  have cc := t78 (k + 4) (grow (o.divs.els.map keyOf)) o.cpls (by rw [yA]; simp; omega) ho.cl
  rw [yA] at cc;simp only [if_neg h8, y2, xN, zfz, Nat.beq_refl, cond_true, cc, zrB]
end Go.Proofs.Tryz.Kn
end
section
namespace Go.Proofs.Tryz.Kn
open Go Go.CE Go.PE
structure RPl where
 tone : Nat
 feet : Nat
 first : Int
 pipes : Nat
 w0 : Nat
 w1 : Nat
 w2 : Nat
 w3 : Nat
 w4 : Nat
structure RPl.ok (r : RPl) : Prop where
 tone : r.tone < 256
 feet : r.feet < 256
 f1 : -128 ≤ r.first
 f2 : r.first ≤ 127
 pipes : r.pipes < 256
 w0 : r.w0 < 256
 w1 : r.w1 < 256
 w2 : r.w2 < 256
 w3 : r.w3 < 256
 w4 : r.w4 < 256
def zdm (r : RPl) : List DV := [U8 (r.tone : Int), U8 (r.feet : Int), .int .i8 r.first, U8 (r.pipes : Int), U8 (r.w0 : Int), U8 (r.w1 : Int), U8 (r.w2 : Int), U8 (r.w3 : Int), U8 (r.w4 : Int)]
structure Pul where
 rank : Nat
 feet : Nat
 kind : Nat
 at_ : Nat
structure Pul.ok (x : Pul) : Prop where
 rank : x.rank < 256
 feet : x.feet < 256
 kind : x.kind < 256
 at_ : x.at_ < 256
def zfV (x : Pul) : List DV := [U8 (x.rank : Int), U8 (x.feet : Int), U8 (x.kind : Int), U8 (x.at_ : Int)]
structure Boa where
 low : Nat
 keys : Nat
 pedal : Bool
 stops : Sl Pul
structure Boa.ok (b : Boa) : Prop where
 low : b.low < 256
 keys : b.keys < 256
 len : b.stops.els.length ≤ 9223372036854775807
 stops : ∀ x ∈ b.stops.els, x.ok
def uS (b : Boa) : List DV := [U8 (b.low : Int), U8 (b.keys : Int), Bo b.pedal, enL 4 zfV b.stops]
structure Lnk where
 src : Nat
 dst : Nat
 shift : Int
 thr : Bool
structure Lnk.ok (l : Lnk) : Prop where
 src : l.src < 256
 dst : l.dst < 256
 s1 : -128 ≤ l.shift
 s2 : l.shift ≤ 127
def ziy (l : Lnk) : List DV := [U8 (l.src : Int), U8 (l.dst : Int), .int .i8 l.shift, Bo l.thr]
structure Pln where
 ranks : Sl RPl
 divs : Sl Boa
 cpls : Sl Lnk
structure Pln.ok (p : Pln) : Prop where
 rl : p.ranks.els.length ≤ 9223372036854775807
 ranks : ∀ x ∈ p.ranks.els, x.ok
 dl : p.divs.els.length ≤ 9223372036854775807
 divs : ∀ x ∈ p.divs.els, x.ok
 cl : p.cpls.els.length ≤ 9223372036854775807
 cpls : ∀ x ∈ p.cpls.els, x.ok
def zdn (p : Pln) : List DV := [enL 9 zdm p.ranks, enL 4 uS p.divs, enL 4 ziy p.cpls]
def ziw (l : List Boa) : Bool := l.all fun b => decide (b.stops.els.length ≤ 3)
def zex (p : Pln) : Bool := decide (1 ≤ p.ranks.els.length) && decide (p.ranks.els.length ≤ 3) && decide (1 ≤ p.divs.els.length) && decide (p.divs.els.length ≤ 3) && decide (p.cpls.els.length ≤ 3) && ziw p.divs.els
theorem l10 (l : Sl Boa) (hl : l.els.length ≤ 9223372036854775807) : ∀ (r : List Boa) (i : Nat), l.els.drop i = r →
  ya (ze2 (enL 4 uS l)) [I6 (i : Int)] [] = some (if ziw r then (.exit 0, [], []) else (.ret, [Bo false], [])) := by
 intro r
 induction r with
 | nil =>
  intro i h;refine zE ?_;simp only [ze2, zJ, zL, zt, zb, x9 (ym h), zw];rfl
 | cons x r ih =>
  intro i h;have h1 := yO h;have ea : pBin .add (I6 (i : Int)) (I6 1) = some (I6 ((i + 1 : Nat) : Int)) := xa;have body : ze2 (enL 4 uS l) [I6 (i : Int)] [] = some (if x.stops.els.length ≤ 3 then (.normal, [I6 ((i + 1 : Nat) : Int)], []) else (.ret, [Bo false], [])) := by
   simp only [ze2, zJ, zL, zt, zb, lt_i h1, zw, if_true, yb h, uS, wR, vS, yj, ea];by_cases hz : x.stops.els.length ≤ 3
   ·have : ¬ ((3 : Int) < (x.stops.els.length : Int)) := by omega
    simp [hz, this]
   ·have : (3 : Int) < (x.stops.els.length : Int) := by omega
    simp [hz, this]
  by_cases hc : x.stops.els.length ≤ 3
  ·rw [if_pos hc] at body; rw [z5 body, ih (i + 1) (z6 h)]; simp [ziw, hc]
  ·rw [if_neg hc] at body; rw [zD body]; simp [ziw, hc]
theorem t10 (k : Nat) (p : Pln) (hp : p.ok) : D (k + 1) 10 [SA (zdn p)] = some (S1 (Bo (zex p))) := by
 have l := l10 p.divs hp.dl p.divs.els 0 rfl;unfold zdn;rw [D10];unfold P10 zex;simp only [zL, zb, zt, yj, zw, decide_eq_true_eq];rw [show (I6 0 : DV) = I6 ((0 : Nat) : Int) from rfl, l]
 by_cases h1 : 1 ≤ p.ranks.els.length
 ·have g1 : ¬ ((p.ranks.els.length : Int) < 1) := by omega
  by_cases h2 : p.ranks.els.length ≤ 3
  ·have g2 : ¬ ((3 : Int) < (p.ranks.els.length : Int)) := by omega
   by_cases h3 : 1 ≤ p.divs.els.length
   ·have g3 : ¬ ((p.divs.els.length : Int) < 1) := by omega
    by_cases h4 : p.divs.els.length ≤ 3
    ·have g4 : ¬ ((3 : Int) < (p.divs.els.length : Int)) := by omega
     by_cases h5 : p.cpls.els.length ≤ 3
     ·have g5 : ¬ ((3 : Int) < (p.cpls.els.length : Int)) := by omega
      simp only [if_neg g1, if_neg g2, if_neg g3, if_neg g4, if_neg g5, decide_eq_true h1, decide_eq_true h2, decide_eq_true h3, decide_eq_true h4, decide_eq_true h5, Bool.true_and];cases ziw p.divs.els <;> rfl
     ·have g5 : (3 : Int) < (p.cpls.els.length : Int) := by omega
      simp [g1, g2, g3, g4, g5, h5]
    ·have g4 : (3 : Int) < (p.divs.els.length : Int) := by omega
     simp [g1, g2, g3, g4, h4]
   ·have g3 : (p.divs.els.length : Int) < 1 := by omega
    simp [g1, g2, g3, h3]
  ·have g2 : (3 : Int) < (p.ranks.els.length : Int) := by omega
   simp [g1, g2, h2]
 ·have g1 : (p.ranks.els.length : Int) < 1 := by omega
  simp [g1, h1]
theorem zgT {α : Type} (f : α → List DV) (l : List α) (i : Nat) : nthO (some (l.map f)) i = (l[i]?).map f := by
 show (l.map f)[i]? = _;rw [Lz6]
theorem t100 (k : Nat) (n : Nat) : D (k + 1) 100 [S1 (U8 (n : Int))] = some (SA (enF (fA n))) := by
 rw [D100];unfold P100;have e : pBin .rem (U8 (n : Int)) (U8 16) = some (U8 ((n % 16 : Nat) : Int)) := remN (b := 16) (by decide)
 have i : qP (some (feetA.map enF)) (U8 ((n % 16 : Nat) : Int)) = some (n % 16) := zcQ (by rw [List.length_map]; exact Nat.mod_lt _ (by decide))
 have j : nthO (some (feetA.map enF)) (n % 16) = some (enF (fA n)) := by rw [zgT, znE]; rfl
 rw [e, zb];refine (congrArg (za · _) i).trans ?_;rw [zb];refine (congrArg (za · _) j).trans ?_;rfl
theorem t101 (k : Nat) (n : Nat) : D (k + 1) 101 [S1 (U8 (n : Int))] = some (SA (enF (fB n))) := by
 rw [D101];unfold P101;have e : pBin .rem (U8 (n : Int)) (U8 6) = some (U8 ((n % 6 : Nat) : Int)) := remN (b := 6) (by decide)
 have i : qP (some (feetB.map enF)) (U8 ((n % 6 : Nat) : Int)) = some (n % 6) := zcQ (by rw [List.length_map]; exact Nat.mod_lt _ (by decide))
 have j : nthO (some (feetB.map enF)) (n % 6) = some (enF (fB n)) := by rw [zgT, znC]; rfl
 rw [e, zb];refine (congrArg (za · _) i).trans ?_;rw [zb];refine (congrArg (za · _) j).trans ?_;rfl
def pre (c : UInt8) (i : Nat) : ByteArray := ⟨#[c]⟩ ++ zau [48 + (i : Int)] ByteArray.empty
theorem zcJ (c : UInt8) (i : Nat) : pStr .add (.str ⟨#[c]⟩) (.str (zau [48 + (i : Int)] ByteArray.empty)) = some (St (pre c i)) := rfl
theorem zaa (i : Nat) : pB2s (.lst 1 [[U8 (48 + (i : Int))]]) = some (St (zau [48 + (i : Int)] ByteArray.empty)) := rfl
def zhK : Nat → ByteArray
 | 0 => ⟨#[79, 112, 101, 110]⟩
 | 1 => ⟨#[70, 108, 117, 116, 101]⟩
 | _ => ⟨#[82, 101, 101, 100]⟩
def wAt (r : RPl) : Nat → Nat
 | 0 => r.w0
 | 1 => r.w1
 | 2 => r.w2
 | 3 => r.w3
 | _ => r.w4
def ur (r : RPl) (n : Nat) : List Int := (List.range n).map fun k => ((wAt r (k % 5) : Nat) : Int)
theorem zbD (r : RPl) (n : Nat) : ur r (n + 1) = ur r n ++ [((wAt r (n % 5) : Nat) : Int)] := by unfold ur; rw [List.range_succ, List.map_append]; rfl
theorem zai (r : RPl) (n : Nat) : (ur r n).length = n := by simp [ur]
theorem znc {r : RPl} (h : r.ok) (i : Nat) : wAt r i < 256 := by
 unfold wAt;split
 ·exact h.w0
 ·exact h.w1
 ·exact h.w2
 ·exact h.w3
 ·exact h.w4
def mk14 (i : Nat) (r : RPl) : Rank := ⟨pre 82 (i % 10), zhK (r.tone % 3), (fA r.feet).1, (fA r.feet).2, r.first, some (ur r (1 + r.pipes % 25))⟩
theorem l48 (r : RPl) (hr : r.ok) (c0 c1 c2 c3 c4 : DV) : ∀ (m j : Nat), j + m = 1 + r.pipes % 25 →
  ya (zeS (U8 (r.pipes : Int)) (U8 (r.w0 : Int)) (U8 (r.w1 : Int)) (U8 (r.w2 : Int)) (U8 (r.w3 : Int)) (U8 (r.w4 : Int))) [I6 (j : Int), c0, c1, c2, c3, c4] [ocL enW (grow (ur r j))] =
   some (.exit 0, [c0, c1, c2, c3, c4], [ocL enW (grow (ur r (1 + r.pipes % 25)))]) := by
 have e1 : pBin .rem (U8 (r.pipes : Int)) (U8 25) = some (U8 ((r.pipes % 25 : Nat) : Int)) := remN (b := 25) (by decide)
 have hm : r.pipes % 25 < 25 := Nat.mod_lt _ (by omega)
 have e2 : yQ .i64 (U8 ((r.pipes % 25 : Nat) : Int)) = some (I6 ((r.pipes % 25 : Nat) : Int)) := ju;have e3 : pBin .add (I6 1) (I6 ((r.pipes % 25 : Nat) : Int)) = some (I6 ((1 + r.pipes % 25 : Nat) : Int)) := by
  rw [show ((1 + r.pipes % 25 : Nat) : Int) = 1 + ((r.pipes % 25 : Nat) : Int) by omega]
  exact xa
 intro m
 induction m with
 | zero =>
  intro j hj;refine zE ?_;have hj' : j = 1 + r.pipes % 25 := by omega
  subst hj';have : decide (((1 + r.pipes % 25 : Nat) : Int) < ((1 + r.pipes % 25 : Nat) : Int)) = false := x9 (by omega)
  simp only [zeS, e1, e2, e3, zb, zJ, y5, zt, this, zw];rfl
 | succ m ih =>
  intro j hj;have hlt : decide ((j : Int) < ((1 + r.pipes % 25 : Nat) : Int)) = true := lt_i (by omega)
  have ea : pBin .add (I6 (j : Int)) (I6 1) = some (I6 ((j + 1 : Nat) : Int)) := xa;have eb : pBin .rem (I6 (j : Int)) (I6 5) = some (I6 ((j % 5 : Nat) : Int)) := remN (b := 5) (by decide)
  have h5 : j % 5 < 5 := Nat.mod_lt _ (by omega)
  have en : qQ 5 (I6 ((j % 5 : Nat) : Int)) = some (j % 5) := zgL h5;have hw := znc hr (j % 5);have ew : atD [U8 (r.w0 : Int), U8 (r.w1 : Int), U8 (r.w2 : Int), U8 (r.w3 : Int), U8 (r.w4 : Int)] (j % 5) = U8 ((wAt r (j % 5) : Nat) : Int) := by
   have : j % 5 = 0 ∨ j % 5 = 1 ∨ j % 5 = 2 ∨ j % 5 = 3 ∨ j % 5 = 4 := by omega
   rcases this with h | h | h | h | h <;> rw [h] <;> rfl
  have ec : yQ .i64 (U8 ((wAt r (j % 5) : Nat) : Int)) = some (I6 ((wAt r (j % 5) : Nat) : Int)) := ju;have ef : fits 8 ((grow (ur r j)).els.length + 1) = true := ug (by decide) (by rw [yA, zai]; omega)
  have body : zeS (U8 (r.pipes : Int)) (U8 (r.w0 : Int)) (U8 (r.w1 : Int)) (U8 (r.w2 : Int)) (U8 (r.w3 : Int)) (U8 (r.w4 : Int)) [I6 (j : Int), c0, c1, c2, c3, c4] [ocL enW (grow (ur r j))] =
    some (.normal, [I6 ((j + 1 : Nat) : Int), c0, c1, c2, c3, c4], [ocL enW (grow (ur r (j + 1)))]) := by
   rw [zbD, wa];simp only [zeS, e1, e2, e3, zb, zJ, y5, zt, hlt, zw, if_true, eb, en, ew, ec, xN, ub, List.length_cons, List.length_nil, ef, jH, ea, xU];rw [ua (f := enW)]
  rw [z5 body, ih (j + 1) (by omega)]
theorem t48 (k : Nat) (i : Nat) (_hi : i < 10) (r : RPl) (hr : r.ok) : D (k + 2) 48 [SA (zdm r), S1 (I6 (i : Int))] = some (SA (enR (mk14 i r))) := by
 unfold zdm;rw [D48];unfold P48;have e1 : pBin .rem (I6 (i : Int)) (I6 10) = some (I6 ((i % 10 : Nat) : Int)) := remN (b := 10) (by decide)
 have h10 : i % 10 < 10 := Nat.mod_lt _ (by decide)
 have e2 : pBin .add (I6 48) (I6 ((i % 10 : Nat) : Int)) = some (I6 (48 + ((i % 10 : Nat) : Int))) := xa;have e3 : yQ .u8 (I6 (48 + ((i % 10 : Nat) : Int))) = some (U8 (48 + ((i % 10 : Nat) : Int))) := by
  show some (DV.int .u8 (xK .u8 (48 + ((i % 10 : Nat) : Int)))) = _;rw [zlt]; congr 2; omega
 have e4 : pBin .rem (U8 (r.tone : Int)) (U8 3) = some (U8 ((r.tone % 3 : Nat) : Int)) := remN (b := 3) (by decide)
 have e5 : yQ .i64 (.int .i8 r.first) = some (I6 r.first) := by
  have := hr.f1; have := hr.f2;exact ju
 have l := l48 r hr (St (pre 82 (i % 10))) (St (zhK (r.tone % 3))) (I6 (fA r.feet).1) (I6 (fA r.feet).2) (I6 r.first) (1 + r.pipes % 25) 0 (by omega)
 rw [show ocL enW (grow (ur r 0)) = none from rfl] at l
 have hg : grow (ur r (1 + r.pipes % 25)) = some (ur r (1 + r.pipes % 25)) := by
  rw [show 1 + r.pipes % 25 = r.pipes % 25 + 1 by omega, zbD, wa, yA]
 rw [hg] at l;have h3 : r.tone % 3 = 0 ∨ r.tone % 3 = 1 ∨ r.tone % 3 = 2 := by omega
 have et : za (qP (some [[(.str ⟨#[79, 112, 101, 110]⟩)], [(.str ⟨#[70, 108, 117, 116, 101]⟩)], [(.str ⟨#[82, 101, 101, 100]⟩)]]) (U8 ((r.tone % 3 : Nat) : Int))) (fun n6 => nthO (some [[(.str ⟨#[79, 112, 101, 110]⟩)], [(.str ⟨#[70, 108, 117, 116, 101]⟩)], [(.str ⟨#[82, 101, 101, 100]⟩)]]) n6) = some [St (zhK (r.tone % 3))] := by
  rcases h3 with h | h | h <;> rw [h] <;> rfl
 have eu : ∀ {β : Type} (K : List DV → Option β), za (qP (some [[(.str ⟨#[79, 112, 101, 110]⟩)], [(.str ⟨#[70, 108, 117, 116, 101]⟩)], [(.str ⟨#[82, 101, 101, 100]⟩)]]) (U8 ((r.tone % 3 : Nat) : Int))) (fun n6 => za (nthO (some [[(.str ⟨#[79, 112, 101, 110]⟩)], [(.str ⟨#[70, 108, 117, 116, 101]⟩)], [(.str ⟨#[82, 101, 101, 100]⟩)]]) n6) K) = K [St (zhK (r.tone % 3))] := by
  intro β K;rcases h3 with h | h | h <;> rw [h] <;> rfl
 have c := t100 k r.feet;simp only [e1, e2, e3, e4, zb, zaa, zcJ];rw [eu];rw [c];unfold enF;rw [ztB (show [I6 (fA r.feet).1, I6 (fA r.feet).2].length = 2 from rfl)]
 simp only [e5, zb, wR, vS];rw [show (I6 0 : DV) = I6 ((0 : Nat) : Int) from rfl, l]
 rfl
end Go.Proofs.Tryz.Kn
end
section
namespace Go.Proofs.Tryz.Kn
open Go Go.CE Go.PE
theorem bT2 {β : Type} (a b : DV) (K : List DS → Option β) : bT [none, none] (some (.tup [.one a, .one b])) K = K [.one a, .one b] := rfl
def rkAt (rs : List Rank) (i : Nat) : Rank := (rs[i]?).getD ⟨ByteArray.empty, ByteArray.empty, 8, 1, 0, none⟩
theorem zcB {rs : List Rank} {i : Nat} (h : i < rs.length) : rs[i]? = some (rkAt rs i) := by
 unfold rkAt;rw [Lz5 h]; rfl
theorem jV {rs : List Rank} {i : Nat} (h : i < rs.length) : rkAt rs i ∈ rs := Lz3 (zcB h)
def xh (low high : Int) (n : Int) (sh : Int) (m : Int) (sh2 : Int) (at_ : Int) : Nat → List Seg
 | 2 => [⟨low, high, some [⟨n, sh⟩, ⟨n, sh + 7⟩]⟩]
 | 3 => if low < at_ then [⟨low, at_ - 1, some [⟨n, sh⟩]⟩, ⟨at_, high, some [⟨m, sh2⟩]⟩] else [⟨at_, high, some [⟨m, sh2⟩]⟩]
 | 4 => if low < at_ then [⟨low, at_ - 1, some [⟨n, sh⟩]⟩, ⟨at_, high, some [⟨n, sh - 12⟩]⟩] else [⟨at_, high, some [⟨n, sh - 12⟩]⟩]
 | 5 => [⟨at_, high, some [⟨n, sh⟩]⟩]
 | _ => [⟨low, high, some [⟨n, sh⟩]⟩]
def rkF (r : Rank) : Int × Int := (r.num, r.den)
def jq (rs : List Rank) (low high : Int) (i : Nat) (x : Pul) : Stop :=
 ⟨pre 83 i, (fB x.feet).1, (fB x.feet).2, some (xh low high ((x.rank % rs.length : Nat) : Int) (shf (fB x.feet) (rkF (rkAt rs (x.rank % rs.length)))) (((x.rank % rs.length + 1) % rs.length : Nat) : Int)
  (shf (fB x.feet) (rkF (rkAt rs ((x.rank % rs.length + 1) % rs.length)))) (low + ((x.at_ : Int).tmod (high - low + 1))) (x.kind % 6))⟩
theorem t49 (k : Nat) (rs : List Rank) (hl : 0 < rs.length) (hl3 : rs.length ≤ 1000) (hf : ∀ r ∈ rs, rkF r ∈ feetA) (low high : Int) (h0 : 0 ≤ low) (h1 : low ≤ high) (h2 : high ≤ 1000) (x : Pul) (hx : x.ok) (i : Nat) (hi : i < 10) :
  D (k + 6) 49 [S1 (enL 6 enR (some rs)), SA [I6 low, I6 high], SA (zfV x), S1 (I6 (i : Int))] = some (SA (wn (jq rs low high i x))) := by
 unfold zfV;rw [D49];unfold P49 jq;have hn : x.rank % rs.length < rs.length := Nat.mod_lt _ hl;have hm : (x.rank % rs.length + 1) % rs.length < rs.length := Nat.mod_lt _ hl;generalize hN : x.rank % rs.length = n at hn hm;generalize hM : (n + 1) % rs.length = m at hm;have e0 : yQ .i64 (U8 (x.rank : Int)) = some (I6 (x.rank : Int)) := by have := hx.rank; exact ju
 have e1 : pBin .rem (I6 (x.rank : Int)) (I6 (rs.length : Int)) = some (I6 (n : Int)) := by rw [← hN]; exact remN (by omega)
 have e2 : pBin .add (I6 48) (I6 (i : Int)) = some (I6 (48 + (i : Int))) := xa;have e3 : yQ .u8 (I6 (48 + (i : Int))) = some (U8 (48 + (i : Int))) := by
  show some (DV.int .u8 (xK .u8 (48 + (i : Int)))) = _;rw [zlt]; congr 2; omega
 have c1 := t101 (k + 4) x.feet;have ix : pIdx 6 (enL 6 enR (some rs)) (I6 (n : Int)) = some (enR (rkAt rs n)) := by rw [u4, yV, zcB hn]; rfl
 have ix2 : pIdx 6 (enL 6 enR (some rs)) (I6 (m : Int)) = some (enR (rkAt rs m)) := by rw [u4, yV, zcB hm]; rfl
 have s1 := t102 k (fB x.feet) (rkF (rkAt rs n)) (zce _) (hf _ (jV hn));have s2 := t102 k (fB x.feet) (rkF (rkAt rs m)) (zce _) (hf _ (jV hm));have b1 := zi4 (fB x.feet) (rkF (rkAt rs n)) (zce _) (hf _ (jV hn));generalize shf (fB x.feet) (rkF (rkAt rs n)) = sh at s1 b1 ⊢;generalize shf (fB x.feet) (rkF (rkAt rs m)) = sh2 at s2 ⊢;unfold rkF enF at s1 s2;unfold enF at c1;generalize (fB x.feet).1 = u at c1 s1 s2 ⊢;generalize (fB x.feet).2 = v at c1 s1 s2 ⊢;simp only at s1 s2;have e4 : yQ .i64 (U8 (x.at_ : Int)) = some (I6 (x.at_ : Int)) := by have := hx.at_; exact ju
 have e5 : pBin .sub (I6 high) (I6 low) = some (I6 (high - low)) := zhL;have e6 : pBin .add (I6 (high - low)) (I6 1) = some (I6 (high - low + 1)) := xa;have e7 : pBin .rem (I6 (x.at_ : Int)) (I6 (high - low + 1)) = some (I6 ((x.at_ : Int).tmod (high - low + 1))) := q8 _ _ _ (by omega)
 have hq : 0 ≤ (x.at_ : Int).tmod (high - low + 1) ∧ (x.at_ : Int).tmod (high - low + 1) < high - low + 1 := ⟨Int.tmod_nonneg _ (by omega), Int.tmod_lt_of_pos _ (by omega)⟩
 generalize (x.at_ : Int).tmod (high - low + 1) = q at e7 hq ⊢;have e8 : pBin .add (I6 low) (I6 q) = some (I6 (low + q)) := xa;have e9 : pBin .rem (U8 (x.kind : Int)) (U8 6) = some (U8 ((x.kind % 6 : Nat) : Int)) := remN (b := 6) (by decide)
 have e10 : pBin .add (I6 sh) (I6 7) = some (I6 (sh + 7)) := xa;have e11 : pBin .sub (I6 sh) (I6 12) = some (I6 (sh - 12)) := zhL;have e12 : pBin .add (I6 (n : Int)) (I6 1) = some (I6 ((n + 1 : Nat) : Int)) := xa;have e13 : pBin .rem (I6 ((n + 1 : Nat) : Int)) (I6 (rs.length : Int)) = some (I6 (m : Int)) := by rw [← hM]; exact remN (by omega)
 have e14 : pBin .sub (I6 (low + q)) (I6 1) = some (I6 (low + q - 1)) := zhL;have f1 : fits 40 1 = true := by decide
 have f2 : fits 40 2 = true := by decide
 have hk : x.kind % 6 < 6 := Nat.mod_lt _ (by decide)
 generalize x.kind % 6 = kd at e9 hk ⊢;have b2 : ∀ {β : Type} (a b : DV) (K : List DV → Option β), bA 2 (some (SA [a, b])) K = K [a, b] := fun _ _ _ => rfl
 simp only [e0, zb, zL, yV, e1, e2, e3, zaa, zcJ, c1, b2, wR, vS, ix, enR, s1, bT2, zcj, za9, e4, e5, e6, e7, e8, e9, wt, yj, zw, e10, e11, e12, e13, ix2, s2, e14];have hkd : kd = 0 ∨ kd = 1 ∨ kd = 2 ∨ kd = 3 ∨ kd = 4 ∨ kd = 5 := by omega
 rcases hkd with h | h | h | h | h | h <;> subst h
 ·rfl
 ·rfl
 ·rfl
 ·by_cases hb : low < low + q
  ·simp only [xh, if_pos hb, decide_eq_true hb];simp [f1, f2];rfl
  ·simp only [xh, if_neg hb, decide_eq_false hb];simp [f1];rfl
 ·by_cases hb : low < low + q
  ·simp only [xh, if_pos hb, decide_eq_true hb];simp [f1, f2];rfl
  ·simp only [xh, if_neg hb, decide_eq_false hb];simp [f1];rfl
 ·rfl
def ww : Nat → List RPl → List Rank
 | _, [] => []
 | i, r :: l => mk14 i r :: ww (i + 1) l
def wg (rs : List Rank) (low high : Int) : Nat → List Pul → List Stop
 | _, [] => []
 | i, x :: l => jq rs low high i x :: wg rs low high (i + 1) l
def lowB (b : Boa) : Int := 36 + ((b.low % 12 : Nat) : Int)
def zbA (b : Boa) : Int := lowB b + ((b.keys % 9 : Nat) : Int)
def zcX (rs : List Rank) (i : Nat) (b : Boa) : Divn := ⟨pre 68 i, b.pedal, lowB b, zbA b, grow (wg rs (lowB b) (zbA b) 0 b.stops.els)⟩
def vE (rs : List Rank) : Nat → List Boa → List Divn
 | _, [] => []
 | i, b :: l => zcX rs i b :: vE rs (i + 1) l
def jF (n : Nat) (i : Nat) (l : Lnk) : Cpl :=
 ⟨pre 67 i, ((l.src % n : Nat) : Int), ((l.dst % n : Nat) : Int), if ((l.src % n : Nat) : Int) = ((l.dst % n : Nat) : Int) ∧ l.shift.tmod 25 = 0 then 12 else l.shift.tmod 25, l.thr⟩
def kf (n : Nat) : Nat → List Lnk → List Cpl
 | _, [] => []
 | i, c :: l => jF n i c :: kf n (i + 1) l
def zbW : ByteArray := ⟨#[79, 114, 103, 97, 110]⟩
def mk18 (p : Pln) : Org := ⟨zbW, grow (ww 0 p.ranks.els), grow (vE (ww 0 p.ranks.els) 0 p.divs.els), grow (kf p.divs.els.length 0 p.cpls.els)⟩
theorem ke : ∀ (l : List RPl) (i : Nat), (ww i l).length = l.length
 | [], _ => rfl
 | _ :: l, i => by simp [ww, ke l]
theorem kW : ∀ (l : List RPl) (i : Nat), ∀ r ∈ ww i l, rkF r ∈ feetA
 | [], _, _, h => by cases h
 | x :: l, i, r, h => by
  rcases List.mem_cons.1 h with rfl | h
  ·exact znD x.feet
  ·exact kW l _ r h
theorem l211 (k : Nat) (l : Sl RPl) (hl : l.els.length ≤ 3) (hr : ∀ x ∈ l.els, x.ok) (nm : DV) : ∀ (r : List RPl) (i : Nat) (acc : List Rank), l.els.drop i = r → acc.length = i →
  ya (zlo (D (k + 2)) (enL 9 zdm l)) [I6 (i : Int), nm] [ocL enR (grow acc), none, none] = some (.exit 0, [nm], [ocL enR (grow (acc ++ ww i r)), none, none]) := by
 intro r
 induction r with
 | nil =>
  intro i acc h _;refine zE ?_;simp only [zlo, zJ, y5, xN, qA, zL, zt, zb, x9 (ym h), zw, ww, List.append_nil];rfl
 | cons x r ih =>
  intro i acc h ha;have h1 := yO h;have ea : pBin .add (I6 (i : Int)) (I6 1) = some (I6 ((i + 1 : Nat) : Int)) := xa;have c := t48 k i (by omega) x (hr x (Lz3 (yL h)))
  have ef : fits 80 ((grow acc).els.length + 1) = true := ug (by decide) (by rw [yA]; omega)
  have b6 : ∀ {β : Type} (K : List DV → Option β), bA 6 (some (SA (enR (mk14 i x)))) K = K (enR (mk14 i x)) := fun _ => rfl
  have body : zlo (D (k + 2)) (enL 9 zdm l) [I6 (i : Int), nm] [ocL enR (grow acc), none, none] = some (.normal, [I6 ((i + 1 : Nat) : Int), nm], [ocL enR (grow (acc ++ [mk14 i x])), none, none]) := by
   rw [wa];unfold zdm at c;simp only [zlo, zJ, y5, xN, qA, zL, zt, zb, lt_i h1, zw, if_true, yb h, zdm, wR, vS, c, b6, ub, List.length_cons, List.length_nil, ef, jH, ea, xU];rw [← ua (f := enR)];rfl
  rw [z5 body, ih (i + 1) _ (z6 h) (by simp [ha])]
  simp [ww]
theorem zs8 (k : Nat) (rs : List Rank) (hl : 0 < rs.length) (hl3 : rs.length ≤ 1000) (hf : ∀ r ∈ rs, rkF r ∈ feetA) (b : Boa) (hb : b.ok) (h3 : b.stops.els.length ≤ 3) (low high : Int) (h0 : 0 ≤ low) (h1 : low ≤ high) (h2 : high ≤ 1000) (d0 d1 c0 c1 : DV) :
  ∀ (r : List Pul) (i : Nat) (acc : List Stop), b.stops.els.drop i = r → acc.length = i →
  ya (ze0 (D (k + 6)) (uS b) [d0, d1, enL 6 enR (some rs)]) [I6 (i : Int), c0, c1, I6 low, I6 high] [ocL wn (grow acc)] = some (.exit 4, [c0, c1, I6 low, I6 high], [ocL wn (grow (acc ++ wg rs low high i r))]) := by
 intro r
 induction r with
 | nil =>
  intro i acc h _;refine zE ?_;simp only [ze0, uS, wR, vS, zJ, y5, xN, zL, zt, zb, x9 (ym h), zw, wg, List.append_nil];rfl
 | cons x r ih =>
  intro i acc h ha;have hlt := yO h;have ea : pBin .add (I6 (i : Int)) (I6 1) = some (I6 ((i + 1 : Nat) : Int)) := xa;have c := t49 k rs hl hl3 hf low high h0 h1 h2 x (hb.stops x (Lz3 (yL h))) i (by omega)
  have ef : fits 56 ((grow acc).els.length + 1) = true := ug (by decide) (by rw [yA]; omega)
  have b4 : ∀ {β : Type} (K : List DV → Option β), bA 4 (some (SA (wn (jq rs low high i x)))) K = K (wn (jq rs low high i x)) := fun _ => rfl
  have body : ze0 (D (k + 6)) (uS b) [d0, d1, enL 6 enR (some rs)] [I6 (i : Int), c0, c1, I6 low, I6 high] [ocL wn (grow acc)] = some (.normal, [I6 ((i + 1 : Nat) : Int), c0, c1, I6 low, I6 high], [ocL wn (grow (acc ++ [jq rs low high i x]))]) := by
   rw [wa];unfold zfV at c;simp only [ze0, uS, zJ, y5, xN, zL, zt, zb, lt_i hlt, zw, if_true, wR, vS, yb h, zfV, c, b4, ub, List.length_cons, List.length_nil, ef, jH, ea, xU];rw [← ua (f := wn)];rfl
  rw [z5 body, ih (i + 1) _ (z6 h) (by simp [ha])]
  simp [wg]
theorem zfB (b : Boa) : 36 ≤ lowB b ∧ lowB b ≤ 47 := by unfold lowB; omega
theorem zdb (b : Boa) : lowB b ≤ zbA b ∧ zbA b ≤ lowB b + 8 := by unfold zbA; omega
theorem zs9 (k : Nat) (rs : List Rank) (hl : 0 < rs.length) (hl3 : rs.length ≤ 1000) (hf : ∀ r ∈ rs, rkF r ∈ feetA) (l : Sl Boa) (hll : l.els.length ≤ 3) (hb : ∀ b ∈ l.els, b.ok) (h3 : ∀ b ∈ l.els, b.stops.els.length ≤ 3) (nm : DV) :
  ∀ (r : List Boa) (i : Nat) (acc : List Divn), l.els.drop i = r → acc.length = i →
  ya (ze1 (D (k + 6)) (enL 4 uS l)) [I6 (i : Int), nm, enL 6 enR (some rs)] [ocL enV (grow acc), none] = some (.exit 2, [nm, enL 6 enR (some rs)], [ocL enV (grow (acc ++ vE rs i r)), none]) := by
 intro r
 induction r with
 | nil =>
  intro i acc h _;refine zE ?_;simp only [ze1, zJ, y5, xN, qA, zL, zt, zb, x9 (ym h), zw, vE, List.append_nil];rfl
 | cons b r ih =>
  intro i acc h ha;have hlt := yO h;have hmem := Lz3 (yL h);have ea : pBin .add (I6 (i : Int)) (I6 1) = some (I6 ((i + 1 : Nat) : Int)) := xa;have hlow := zfB b;have hhigh := zdb b;have e1 : pBin .rem (U8 (b.low : Int)) (U8 12) = some (U8 ((b.low % 12 : Nat) : Int)) := remN (b := 12) (by decide)
  have e2 : yQ .i64 (U8 ((b.low % 12 : Nat) : Int)) = some (I6 ((b.low % 12 : Nat) : Int)) := ju;have e3 : pBin .add (I6 36) (I6 ((b.low % 12 : Nat) : Int)) = some (I6 (lowB b)) := xa;have e4 : pBin .add (I6 48) (I6 (i : Int)) = some (I6 (48 + (i : Int))) := xa;have e5 : yQ .u8 (I6 (48 + (i : Int))) = some (U8 (48 + (i : Int))) := by
   show some (DV.int .u8 (xK .u8 (48 + (i : Int)))) = _;rw [zlt]; congr 2; omega
  have e6 : pBin .rem (U8 (b.keys : Int)) (U8 9) = some (U8 ((b.keys % 9 : Nat) : Int)) := remN (b := 9) (by decide)
  have e7 : yQ .i64 (U8 ((b.keys % 9 : Nat) : Int)) = some (I6 ((b.keys % 9 : Nat) : Int)) := ju;have e8 : pBin .add (I6 (lowB b)) (I6 ((b.keys % 9 : Nat) : Int)) = some (I6 (zbA b)) := by
   have : pBin .add (I6 (lowB b)) (I6 ((b.keys % 9 : Nat) : Int)) = some (I6 (lowB b + ((b.keys % 9 : Nat) : Int))) := xa;exact this
  have ll := zs8 k rs hl hl3 hf b (hb b hmem) (h3 b hmem) (lowB b) (zbA b) (by omega) (by omega) (by omega) (I6 (i : Int)) nm (St (pre 68 i)) (Bo b.pedal) b.stops.els 0 [] rfl rfl
  rw [show ocL wn (grow ([] : List Stop)) = none from rfl, show (I6 ((0 : Nat) : Int) : DV) = I6 0 from rfl, List.nil_append] at ll
  have ef : fits 64 ((grow acc).els.length + 1) = true := ug (by decide) (by rw [yA]; omega)
  have body : ze1 (D (k + 6)) (enL 4 uS l) [I6 (i : Int), nm, enL 6 enR (some rs)] [ocL enV (grow acc), none] = some (.normal, [I6 ((i + 1 : Nat) : Int), nm, enL 6 enR (some rs)], [ocL enV (grow (acc ++ [zcX rs i b])), none]) := by
   rw [wa];have ix : pIdx 4 (enL 4 uS l) (I6 (i : Int)) = some (uS b) := yb h _;have q0 : atD (uS b) 0 = U8 (b.low : Int) := rfl;have q1 : atD (uS b) 1 = U8 (b.keys : Int) := rfl;have q2 : atD (uS b) 2 = Bo b.pedal := rfl;simp only [ze1, zJ, y5, xN, qA, zL, zt, zb, lt_i hlt, zw, if_true, ix, q0, q1, q2, e1, e2, e3, e4, e5, zaa, zcJ, e6, e7, e8, ll, y2, Nat.beq_refl, cond_true, ub, List.length_cons, List.length_nil, ef, jH, ea, xU, zfz];rw [← ua (f := enV)];rfl
  rw [z5 body, ih (i + 1) _ (z6 h) (by simp [ha])]
  simp [vE]
theorem zs7 (n : Nat) (hn : 0 < n) (hn3 : n ≤ 1000) (l : Sl Lnk) (hll : l.els.length ≤ 3) (hb : ∀ b ∈ l.els, b.ok) (nm rk : DV) (dv : OC) :
  ∀ (r : List Lnk) (i : Nat) (acc : List Cpl), l.els.drop i = r → acc.length = i →
  ya (zeZ (enL 4 ziy l) (I6 (n : Int))) [I6 (i : Int), nm, rk] [dv, ocL enC (grow acc)] = some (.exit 6, [nm, rk], [dv, ocL enC (grow (acc ++ kf n i r))]) := by
 intro r
 induction r with
 | nil =>
  intro i acc h _;refine zE ?_;simp only [zeZ, zJ, y5, xN, qA, zL, zt, zb, x9 (ym h), zw, kf, List.append_nil];rfl
 | cons b r ih =>
  intro i acc h ha;have hlt := yO h;have hbb := hb b (Lz3 (yL h));have ea : pBin .add (I6 (i : Int)) (I6 1) = some (I6 ((i + 1 : Nat) : Int)) := xa;have e4 : pBin .add (I6 48) (I6 (i : Int)) = some (I6 (48 + (i : Int))) := xa;have e5 : yQ .u8 (I6 (48 + (i : Int))) = some (U8 (48 + (i : Int))) := by
   show some (DV.int .u8 (xK .u8 (48 + (i : Int)))) = _;rw [zlt]; congr 2; omega
  have g1 : yQ .i64 (U8 (b.src : Int)) = some (I6 (b.src : Int)) := by have := hbb.src; exact ju
  have g2 : pBin .rem (I6 (b.src : Int)) (I6 (n : Int)) = some (I6 ((b.src % n : Nat) : Int)) := remN (by omega)
  have g3 : yQ .i64 (U8 (b.dst : Int)) = some (I6 (b.dst : Int)) := by have := hbb.dst; exact ju
  have g4 : pBin .rem (I6 (b.dst : Int)) (I6 (n : Int)) = some (I6 ((b.dst % n : Nat) : Int)) := remN (by omega)
  have g5 : yQ .i64 (.int .i8 b.shift) = some (I6 b.shift) := by have := hbb.s1; have := hbb.s2; exact ju
  have g6 : pBin .rem (I6 b.shift) (I6 25) = some (I6 (b.shift.tmod 25)) := q8 _ _ _ (by decide)
  have ef : fits 48 ((grow acc).els.length + 1) = true := ug (by decide) (by rw [yA]; omega)
  have body : zeZ (enL 4 ziy l) (I6 (n : Int)) [I6 (i : Int), nm, rk] [dv, ocL enC (grow acc)] = some (.normal, [I6 ((i + 1 : Nat) : Int), nm, rk], [dv, ocL enC (grow (acc ++ [jF n i b]))]) := by
   rw [wa, ← ua (f := enC)];simp only [zeZ, zJ, y5, xN, qA, zL, zt, zb, lt_i hlt, zw, if_true, yb h, ziy, wR, vS, e4, e5, zaa, zcJ, g1, g2, g3, g4, g5, g6, wt, ub, List.length_cons, List.length_nil, ef, jH, ea, xU];unfold jF enC;by_cases h1 : ((b.src % n : Nat) : Int) = ((b.dst % n : Nat) : Int)
   ·by_cases h2 : b.shift.tmod 25 = 0
    ·rw [if_pos (by simpa using h1), if_pos (by simpa using h2), if_pos ⟨h1, h2⟩]
    ·rw [if_pos (by simpa using h1), if_neg (by simpa using h2), if_neg (fun hh => h2 hh.2)]
   ·rw [if_neg (by simpa using h1), if_neg (fun hh => h1 hh.1)]
  rw [z5 body, ih (i + 1) _ (z6 h) (by simp [ha])]
  simp [kf]
theorem za6 {p : Pln} (h : zex p = true) : 1 ≤ p.ranks.els.length ∧ p.ranks.els.length ≤ 3 ∧ 1 ≤ p.divs.els.length ∧ p.divs.els.length ≤ 3 ∧ p.cpls.els.length ≤ 3 ∧ ∀ b ∈ p.divs.els, b.stops.els.length ≤ 3 := by
 unfold zex ziw at h;simp only [LzC, decide_eq_true_eq, List.all_eq_true] at h;obtain ⟨⟨⟨⟨⟨a, b⟩, c⟩, d⟩, e⟩, f⟩ := h;exact ⟨a, b, c, d, e, f⟩
theorem zkD {α : Type} {l : List α} (h : 0 < l.length) : grow l = some l := by cases l with | nil => simp at h | cons _ _ => rfl
theorem t11 (k : Nat) (p : Pln) (hp : p.ok) (hf : zex p = true) : D (k + 7) 11 [SA (zdn p)] = some (SA (enO (mk18 p))) := by
 obtain ⟨f1, f2, f3, f4, f5, f6⟩ := za6 hf;have hlen : (ww 0 p.ranks.els).length = p.ranks.els.length := ke _ _;have l2 := l211 (k + 4) p.ranks f2 hp.ranks (St zbW) p.ranks.els 0 [] rfl rfl;have l12 := zs9 k (ww 0 p.ranks.els) (by omega) (by omega) (kW _ _) p.divs f4 hp.divs f6 (St zbW) p.divs.els 0 [] rfl rfl
 have l43 := zs7 p.divs.els.length (by omega) (by omega) p.cpls f5 hp.cpls (St zbW) (enL 6 enR (some (ww 0 p.ranks.els))) (ocL enV (grow (vE (ww 0 p.ranks.els) 0 p.divs.els))) p.cpls.els 0 [] rfl rfl
 rw [show ocL enR (grow ([] : List Rank)) = none from rfl, show (I6 ((0 : Nat) : Int) : DV) = I6 0 from rfl, List.nil_append] at l2
 rw [show ocL enV (grow ([] : List Divn)) = none from rfl, show (I6 ((0 : Nat) : Int) : DV) = I6 0 from rfl, List.nil_append] at l12
 rw [show ocL enC (grow ([] : List Cpl)) = none from rfl, show (I6 ((0 : Nat) : Int) : DV) = I6 0 from rfl, List.nil_append] at l43
 have hg : grow (ww 0 p.ranks.els) = some (ww 0 p.ranks.els) := zkD (by omega)
 unfold zdn;rw [D11];unfold P11 mk18 enO;unfold zbW at l2 l12 l43;rw [hg] at l2 ⊢;simp only [l2, y2, Nat.beq_refl, cond_true, zJ, y5, xN, qA, zfz, l12, zL, zb, l43];rfl
end Go.Proofs.Tryz.Kn
end
section
namespace Go.Proofs.Tryz.Kn
open Go Go.CE Go.PE
theorem zmi : ([82, 83, 68, 67].all fun c => [0, 1, 2, 3, 4, 5, 6, 7, 8, 9].all fun i => isName (pre c i)) = true := by kernel_rfl
theorem jc {c : UInt8} (hc : c ∈ ([82, 83, 68, 67] : List UInt8)) {i : Nat} (h : i < 10) : isName (pre c i) = true := by
 have := List.all_eq_true.1 (List.all_eq_true.1 zmi c hc) i;refine this ?_;have : i = 0 ∨ i = 1 ∨ i = 2 ∨ i = 3 ∨ i = 4 ∨ i = 5 ∨ i = 6 ∨ i = 7 ∨ i = 8 ∨ i = 9 := by omega
 rcases this with rfl | rfl | rfl | rfl | rfl | rfl | rfl | rfl | rfl | rfl <;> simp
theorem zoX : ([82, 83, 68, 67].all fun c => [0, 1, 2].all fun i => [0, 1, 2].all fun j => Nat.beq i j || !eqB (pre c i) (pre c j)) = true := by kernel_rfl
theorem zdk {c : UInt8} (hc : c ∈ ([82, 83, 68, 67] : List UInt8)) {i j : Nat} (hi : i < 3) (hj : j < 3) (h : i ≠ j) : eqB (pre c i) (pre c j) = false := by
 have hm : ∀ n < 3, n ∈ ([0, 1, 2] : List Nat) := by
  intro n hn;have : n = 0 ∨ n = 1 ∨ n = 2 := by omega
  rcases this with rfl | rfl | rfl <;> simp
 have := List.all_eq_true.1 (List.all_eq_true.1 (List.all_eq_true.1 zoX c hc) i (hm i hi)) j (hm j hj);rw [Bool.or_eq_true] at this;rcases this with e | e
 ·exact absurd (Lz1 e) h
 ·simpa using e
theorem zfG (n : Nat) : isName (zhK n) = true := by
 unfold zhK;split <;> rfl
theorem zhJ (r : RPl) (hr : r.ok) (n : Nat) : (ur r n).any xm = false := by
 rw [List.any_eq_false];intro x hx;unfold ur at hx;obtain ⟨k, _, rfl⟩ := List.mem_map.1 hx;have := znc hr (k % 5);unfold xm;simp only [Bool.or_eq_true, decide_eq_true_eq];omega
theorem zkc (i : Nat) (r : RPl) (hr : r.ok) : yI (mk14 i r) = 0 := by
 have h1 := jc (c := 82) (by simp) (show i % 10 < 10 by omega)
 have h2 := zrl _ (znD r.feet);have h3 := zhJ r hr (1 + r.pipes % 25);have h4 := zai r (1 + r.pipes % 25);have := hr.f1; have := hr.f2;have h5 : decide (-256 ≤ r.first) = true := decide_eq_true (by omega)
 have h6 : decide (r.first ≤ 256) = true := decide_eq_true (by omega)
 have h7 : ¬ (1 + r.pipes % 25 = 0) := by omega
 have h8 : ¬ (128 < 1 + r.pipes % 25) := by omega
 unfold yI mk14;simp only [h1, zfG, h2, h5, h6, yV, h4, h3, h7, h8, Bool.not_true, Bool.false_eq_true, if_false, Bool.and_self, ne_eq, not_true_eq_false]
theorem zfj (l : List Rank) (h : ∀ r ∈ l, yI r = 0) : wq l = 0 := by
 induction l with
 | nil => rfl
 | cons x l ih => unfold wq; rw [if_neg (by simpa using h x (List.mem_cons_self ..))]; exact ih fun r hr => h r (List.mem_cons_of_mem _ hr)
theorem zgX : ∀ (l : List RPl) (i : Nat), (∀ r ∈ l, r.ok) → ∀ x ∈ ww i l, yI x = 0
 | [], _, _, _, h => by cases h
 | r :: l, i, H, x, h => by
  rcases List.mem_cons.1 h with rfl | h
  ·exact zkc i r (H r (List.mem_cons_self ..))
  ·exact zgX l _ (fun r hr => H r (List.mem_cons_of_mem _ hr)) x h
theorem zgY : ∀ (l : List RPl) (i : Nat), i + l.length ≤ 3 → (∀ r ∈ l, r.ok) → uv (ww i l) ((List.range i).map (pre 82)) = 0
 | [], _, _, _ => rfl
 | r :: l, i, hl, H => by
  simp only [List.length_cons] at hl;have h1 := zkc i r (H r (List.mem_cons_self ..));have hi : i % 10 = i := by omega
  have h2 : ((List.range i).map (pre 82)).any (eqB (mk14 i r).name) = false := by
   rw [List.any_eq_false];intro s hs;obtain ⟨j, hj, rfl⟩ := List.mem_map.1 hs;have hj := List.mem_range.1 hj;have := zdk (c := 82) (by simp) (show i < 3 by omega) (show j < 3 by omega) (by omega)
   show ¬ eqB (pre 82 (i % 10)) (pre 82 j) = true;rw [hi, this]; simp
  unfold ww uv;rw [if_neg (by simpa using h1), if_neg (by rw [h2]; simp)]
  have : (List.range i).map (pre 82) ++ [(mk14 i r).name] = (List.range (i + 1)).map (pre 82) := by
   rw [List.range_succ, List.map_append];show _ ++ [pre 82 (i % 10)] = _;rw [hi]; rfl
  rw [this];exact zgY l (i + 1) (by omega) fun r hr => H r (List.mem_cons_of_mem _ hr)
theorem qB : ∀ (l : List RPl) (i : Nat), ∀ r ∈ ww i l, zbU r
 | [], _, _, h => by cases h
 | x :: l, i, r, h => by
  rcases List.mem_cons.1 h with rfl | h
  ·show (ur x (1 + x.pipes % 25)).length ≤ _;rw [zai]; omega
  ·exact qB l _ r h
theorem jN (n : Nat) (d : Draw) (h1 : 0 ≤ d.rank) (h2 : d.rank < (n : Int)) (h3 : -127 ≤ d.shift) (h4 : d.shift ≤ 127) : yM n [d] = 0 := by
 unfold yM vn vn;rw [if_neg (by simp), if_neg (by omega), if_neg (by omega), if_neg (by omega), if_neg (by omega), if_neg (by simp)]
theorem zfX (n : Nat) (d e : Draw) (h1 : 0 ≤ d.rank) (h2 : d.rank < (n : Int)) (h3 : -127 ≤ d.shift) (h4 : d.shift ≤ 127) (g1 : 0 ≤ e.rank) (g2 : e.rank < (n : Int)) (g3 : -127 ≤ e.shift) (g4 : e.shift ≤ 127) (hne : e ≠ d) : yM n [d, e] = 0 := by
 unfold yM vn vn vn;rw [if_neg (by simp), if_neg (by omega), if_neg (by omega), if_neg (by omega), if_neg (by omega), if_neg (by simp), if_neg (by omega), if_neg (by omega), if_neg (by omega), if_neg (by omega), if_neg (by simpa using hne)]
theorem zos (x : Place) (_hlow : 0 ≤ x.low) (hlh : x.low ≤ x.high) (n m : Int) (sh sh2 at_ : Int) (h1 : 0 ≤ n) (h2 : n < (x.ranks.els.length : Int)) (h3 : 0 ≤ m) (h4 : m < (x.ranks.els.length : Int)) (s1 : -100 ≤ sh) (s2 : sh ≤ 100) (s3 : -100 ≤ sh2) (s4 : sh2 ≤ 100) (a1 : x.low ≤ at_) (a2 : at_ ≤ x.high) (kd : Nat) :
  (xh x.low x.high n sh m sh2 at_ kd).length ≠ 0 ∧ (xh x.low x.high n sh m sh2 at_ kd).length ≤ 12 ∧ vV x (xh x.low x.high n sh m sh2 at_ kd) none = 0 := by
 have d1 := jN x.ranks.els.length ⟨n, sh⟩ h1 h2 (by show -127 ≤ sh; omega) (by show sh ≤ 127; omega)
 have d2 := jN x.ranks.els.length ⟨m, sh2⟩ h3 h4 (by show -127 ≤ sh2; omega) (by show sh2 ≤ 127; omega)
 have d3 := jN x.ranks.els.length ⟨n, sh - 12⟩ h1 h2 (by show -127 ≤ sh - 12; omega) (by show sh - 12 ≤ 127; omega)
 have d4 := zfX x.ranks.els.length ⟨n, sh⟩ ⟨n, sh + 7⟩ h1 h2 (by show -127 ≤ sh; omega) (by show sh ≤ 127; omega) h1 h2 (by show -127 ≤ sh + 7; omega) (by show sh + 7 ≤ 127; omega) (fun h => by have := congrArg Draw.shift h; simp only at this; omega)
 have one : ∀ (lo hi : Int) (ds : List Draw) (p : Option Int) (r : List Seg), x.low ≤ lo → lo ≤ hi → hi ≤ x.high → leO lo p = false → yM x.ranks.els.length ds = 0 → vV x (⟨lo, hi, some ds⟩ :: r) p = vV x r (some hi) := by
  intro lo hi ds p r e1 e2 e3 e4 e5;rw [vV];simp only [yV, e4, e5];rw [if_neg (by omega), if_neg (by omega), if_neg (by omega), if_neg (by simp), if_neg (by simp)]
 unfold xh;split
 ·refine ⟨by simp, by simp, ?_⟩
  rw [one _ _ _ _ _ (by omega) (by omega) (by omega) rfl d4]; rfl
 ·by_cases hb : x.low < at_
  ·rw [if_pos hb];refine ⟨by simp, by simp, ?_⟩
   rw [one _ _ _ _ _ (by omega) (by omega) (by omega) rfl d1, one _ _ _ _ _ (by omega) (by omega) (by omega) (by simp only [leO]; exact decide_eq_false (by omega)) d2]; rfl
  ·rw [if_neg hb];refine ⟨by simp, by simp, ?_⟩
   rw [one _ _ _ _ _ (by omega) (by omega) (by omega) rfl d2]; rfl
 ·by_cases hb : x.low < at_
  ·rw [if_pos hb];refine ⟨by simp, by simp, ?_⟩
   rw [one _ _ _ _ _ (by omega) (by omega) (by omega) rfl d1, one _ _ _ _ _ (by omega) (by omega) (by omega) (by simp only [leO]; exact decide_eq_false (by omega)) d3]; rfl
  ·rw [if_neg hb];refine ⟨by simp, by simp, ?_⟩
   rw [one _ _ _ _ _ (by omega) (by omega) (by omega) rfl d3]; rfl
 ·refine ⟨by simp, by simp, ?_⟩
  rw [one _ _ _ _ _ (by omega) (by omega) (by omega) rfl d1]; rfl
 ·refine ⟨by simp, by simp, ?_⟩
  rw [one _ _ _ _ _ (by omega) (by omega) (by omega) rfl d1]; rfl
theorem zka (rs : List Rank) (hl : 0 < rs.length) (hl3 : rs.length ≤ 60) (hr : ∀ r ∈ rs, yI r = 0) (hf : ∀ r ∈ rs, rkF r ∈ feetA) (low high : Int) (h0 : 0 ≤ low) (h1 : low ≤ high) (h2 : high ≤ 127) (i : Nat) (hi : i < 10) (x : Pul) : w8 ⟨some rs, low, high⟩ (jq rs low high i x) = 0 := by
 have p1 : vY ⟨some rs, low, high⟩ = 0 := by
  unfold vY;rw [if_neg (by simp only [yV]; omega), if_neg (by rw [show Sl.els (Place.mk (some rs) low high).ranks = rs from rfl, zfj rs hr]; simp)]
  show right low high = 0;unfold right;rw [if_neg (by omega), if_neg (by omega), if_neg (by omega)]
 have hn : x.rank % rs.length < rs.length := Nat.mod_lt _ hl;have hm : (x.rank % rs.length + 1) % rs.length < rs.length := Nat.mod_lt _ hl;have b1 := zi4 (fB x.feet) (rkF (rkAt rs (x.rank % rs.length))) (zce _) (hf _ (jV hn));have b2 := zi4 (fB x.feet) (rkF (rkAt rs ((x.rank % rs.length + 1) % rs.length))) (zce _) (hf _ (jV hm));have hq : 0 ≤ (x.at_ : Int).tmod (high - low + 1) ∧ (x.at_ : Int).tmod (high - low + 1) < high - low + 1 := ⟨Int.tmod_nonneg _ (by omega), Int.tmod_lt_of_pos _ (by omega)⟩
 obtain ⟨s1, s2, s3⟩ := zos ⟨some rs, low, high⟩ h0 h1 ((x.rank % rs.length : Nat) : Int) (((x.rank % rs.length + 1) % rs.length : Nat) : Int) (shf (fB x.feet) (rkF (rkAt rs (x.rank % rs.length)))) (shf (fB x.feet) (rkF (rkAt rs ((x.rank % rs.length + 1) % rs.length)))) (low + ((x.at_ : Int).tmod (high - low + 1)))
  (by omega) (by simp only [yV]; omega) (by omega) (by simp only [yV]; omega) b1.1 b1.2 b2.1 b2.2 (by show low ≤ _; omega) (by show _ ≤ high; omega) (x.kind % 6)
 unfold w8 jq;rw [if_neg (by rw [p1]; simp), if_neg (by rw [show isName _ = true from jc (c := 83) (by simp) hi]; simp), if_neg (by simpa using zrk _ (zce x.feet)), if_neg (by simpa using s1), if_neg (by simp only [yV]; exact Nat.not_lt.2 s2)]
 exact s3
theorem zb3 (rs : List Rank) (hl : 0 < rs.length) (hl3 : rs.length ≤ 60) (hr : ∀ r ∈ rs, yI r = 0) (hf : ∀ r ∈ rs, rkF r ∈ feetA) (low high : Int) (h0 : 0 ≤ low) (h1 : low ≤ high) (h2 : high ≤ 127) :
  ∀ (l : List Pul) (i : Nat), i + l.length ≤ 3 → jx ⟨some rs, low, high⟩ (wg rs low high i l) ((List.range i).map (pre 83)) = 0
 | [], _, _ => rfl
 | x :: l, i, h => by
  simp only [List.length_cons] at h;have e1 := zka rs hl hl3 hr hf low high h0 h1 h2 i (by omega) x
  have e2 : ((List.range i).map (pre 83)).any (eqB (jq rs low high i x).name) = false := by
   rw [List.any_eq_false];intro s hs;obtain ⟨j, hj, rfl⟩ := List.mem_map.1 hs;have hj := List.mem_range.1 hj;have := zdk (c := 83) (by simp) (show i < 3 by omega) (show j < 3 by omega) (by omega)
   show ¬ eqB (pre 83 i) (pre 83 j) = true;rw [this]; simp
  unfold wg jx;rw [if_neg (by simpa using e1), if_neg (by rw [e2]; simp)]
  have : (List.range i).map (pre 83) ++ [(jq rs low high i x).name] = (List.range (i + 1)).map (pre 83) := by
   rw [List.range_succ, List.map_append]; rfl
  rw [this];exact zb3 rs hl hl3 hr hf low high h0 h1 h2 l (i + 1) (by omega)
theorem jE (rs : List Rank) (low high : Int) : ∀ (l : List Pul) (i : Nat), (wg rs low high i l).length = l.length
 | [], _ => rfl
 | _ :: l, i => by simp [wg, jE rs low high l]
theorem zjh (b : Boa) : right (lowB b) (zbA b) = 0 := by
 have := zfB b; have := zdb b;unfold right;rw [if_neg (by omega), if_neg (by omega), if_neg (by omega)]
theorem zmt (rs : List Rank) (hl : 0 < rs.length) (hl3 : rs.length ≤ 60) (hr : ∀ r ∈ rs, yI r = 0) (hf : ∀ r ∈ rs, rkF r ∈ feetA) (i : Nat) (b : Boa) (hb : b.stops.els.length ≤ 3) : jt (some rs) (zcX rs i b) = 0 := by
 have := zfB b; have := zdb b;unfold jt zcX;simp only [yA, jE, zjh];rw [if_neg (by simp), if_neg (by omega)]
 exact zb3 rs hl hl3 hr hf _ _ (by omega) (by omega) (by omega) _ 0 (by omega)
theorem zeg (rs : List Rank) (hl : 0 < rs.length) (hl3 : rs.length ≤ 60) (hr : ∀ r ∈ rs, yI r = 0) (hf : ∀ r ∈ rs, rkF r ∈ feetA) :
  ∀ (l : List Boa) (i : Nat), i + l.length ≤ 3 → (∀ b ∈ l, b.stops.els.length ≤ 3) → kK (some rs) (vE rs i l) ((List.range i).map (pre 68)) = 0
 | [], _, _, _ => rfl
 | x :: l, i, h, H => by
  simp only [List.length_cons] at h;have e1 := zmt rs hl hl3 hr hf i x (H x (List.mem_cons_self ..));have e2 : ((List.range i).map (pre 68)).any (eqB (zcX rs i x).name) = false := by
   rw [List.any_eq_false];intro s hs;obtain ⟨j, hj, rfl⟩ := List.mem_map.1 hs;have hj := List.mem_range.1 hj;have := zdk (c := 68) (by simp) (show i < 3 by omega) (show j < 3 by omega) (by omega)
   show ¬ eqB (pre 68 i) (pre 68 j) = true;rw [this]; simp
  have e3 : isName (zcX rs i x).name = true := jc (c := 68) (by simp) (by omega)
  unfold vE kK;rw [if_neg (by rw [e3]; simp), if_neg (by rw [e2]; simp), if_neg (by simpa using e1)]
  have : (List.range i).map (pre 68) ++ [(zcX rs i x).name] = (List.range (i + 1)).map (pre 68) := by
   rw [List.range_succ, List.map_append]; rfl
  rw [this];exact zeg rs hl hl3 hr hf l (i + 1) (by omega) fun b hb => H b (List.mem_cons_of_mem _ hb)
theorem vC (rs : List Rank) : ∀ (l : List Boa) (i : Nat), (vE rs i l).length = l.length
 | [], _ => rfl
 | _ :: l, i => by simp [vE, vC rs l]
theorem zaR (rs : List Rank) : ∀ (l : List Boa) (i : Nat), ((vE rs i l).map keyOf).any (fun k => right k.1 k.2 != 0) = false
 | [], _ => rfl
 | b :: l, i => by
  simp only [vE, List.map_cons, List.any_cons, zaR rs l];have : right (keyOf (zcX rs i b)).1 (keyOf (zcX rs i b)).2 = 0 := zjh b;rw [this]; rfl
theorem zeh (n : Nat) (hn : 0 < n) : ∀ (l : List Lnk) (i : Nat) (p : List Cpl), i + l.length ≤ 3 → (∀ c ∈ l, c.ok) → p.map Cpl.name = (List.range i).map (pre 67) → zf1 n p (kf n i l) = 0
 | [], _, _, _, _, _ => rfl
 | x :: l, i, p, h, H, hp => by
  simp only [List.length_cons] at h;have e2 : p.any (fun y => eqB y.name (jF n i x).name) = false := by
   rw [List.any_eq_false];intro y hy;have : y.name ∈ (List.range i).map (pre 67) := by rw [← hp]; exact List.mem_map_of_mem hy
   obtain ⟨j, hj, e⟩ := List.mem_map.1 this;have hj := List.mem_range.1 hj;have := zdk (c := 67) (by simp) (show j < 3 by omega) (show i < 3 by omega) (by omega)
   rw [← e];show ¬ eqB (pre 67 j) (pre 67 i) = true;rw [this]; simp
  have e3 : isName (jF n i x).name = true := jc (c := 67) (by simp) (by omega)
  have a1 : x.src % n < n := Nat.mod_lt _ hn;have a2 : x.dst % n < n := Nat.mod_lt _ hn;have hs : -25 < x.shift.tmod 25 ∧ x.shift.tmod 25 < 25 := by
   have := Int.lt_tmod_of_pos x.shift (show (0 : Int) < 25 by decide)
   have := Int.tmod_lt_of_pos x.shift (show (0 : Int) < 25 by decide)
   omega
  have q : ∀ a : Bool, True := fun _ => trivial
  have f0 : ¬ (jF n i x).src < 0 := by show ¬ ((x.src % n : Nat) : Int) < 0; omega
  have f1 : ¬ (n : Int) ≤ (jF n i x).src := by show ¬ (n : Int) ≤ ((x.src % n : Nat) : Int); omega
  have f2 : ¬ (jF n i x).dst < 0 := by show ¬ ((x.dst % n : Nat) : Int) < 0; omega
  have f3 : ¬ (n : Int) ≤ (jF n i x).dst := by show ¬ (n : Int) ≤ ((x.dst % n : Nat) : Int); omega
  have f4 : -127 ≤ (jF n i x).shift ∧ (jF n i x).shift ≤ 127 ∧ ¬ ((jF n i x).src = (jF n i x).dst ∧ (jF n i x).shift = 0) := by
   unfold jF;simp only;split
   ·rename_i hh; exact ⟨by omega, by omega, fun h => by omega⟩
   ·rename_i hh; exact ⟨by omega, by omega, fun h => hh h⟩
  unfold kf zf1;rw [if_neg (by rw [e3]; simp), if_neg (by rw [e2]; simp), if_neg f0, if_neg f1, if_neg f2, if_neg f3, if_neg (by omega), if_neg (by omega), if_neg f4.2.2]
  refine zeh n hn l (i + 1) _ (by omega) (fun c hc => H c (List.mem_cons_of_mem _ hc)) ?_
  rw [List.map_append, hp, List.range_succ, List.map_append]; rfl
theorem kY (n : Nat) : ∀ (l : List Lnk) (i : Nat), (kf n i l).length = l.length
 | [], _ => rfl
 | _ :: l, i => by simp [kf, kY n l]
theorem zij (p : Pln) (hp : p.ok) (hf : zex p = true) : wl (mk18 p) = 0 := by
 obtain ⟨f1, f2, f3, f4, f5, f6⟩ := za6 hf;have hlen : (ww 0 p.ranks.els).length = p.ranks.els.length := ke _ _;have hg : grow (ww 0 p.ranks.els) = some (ww 0 p.ranks.els) := zkD (by omega)
 have r1 := zgY p.ranks.els 0 (by omega) hp.ranks
 have d1 := zeg (ww 0 p.ranks.els) (by omega) (by omega) (zgX _ _ hp.ranks) (kW _ _) p.divs.els 0 (by omega) f6
 have c1 := zeh p.divs.els.length (by omega) p.cpls.els 0 [] (by omega) hp.cpls rfl
 have k1 := zaR (ww 0 p.ranks.els) p.divs.els 0;simp only [List.range_zero, List.map_nil] at r1 d1;unfold wl mk18;simp only [yA, hg, yV, hlen, vC];rw [if_neg (by rw [show isName zbW = true from rfl]; simp), if_neg (by omega), if_neg (by rw [r1]; simp), if_neg (by omega), if_neg (by omega), if_neg (by rw [d1]; simp)]
 unfold zhu;rw [if_neg (by rw [List.length_map, vC]; omega), if_neg (by rw [kY]; omega), if_neg (by rw [k1]; simp), List.length_map, vC]
 exact c1
theorem zaQ (rs : List Rank) (low high : Int) : ∀ (l : List Pul) (i : Nat), ∀ s ∈ wg rs low high i l, s.ok
 | [], _, _, h => by cases h
 | x :: l, i, s, h => by
  rcases List.mem_cons.1 h with rfl | h
  ·have hall : ∀ n sh m sh2 a kd, (xh low high n sh m sh2 a kd).length ≤ 2 ∧ ∀ g ∈ xh low high n sh m sh2 a kd, g.draws.els.length ≤ 2 := by
    intro n sh m sh2 a kd;unfold xh;split
    ·simp
    ·split <;> simp
    ·split <;> simp
    ·simp
    ·simp
   obtain ⟨q1, q2⟩ := hall ((x.rank % rs.length : Nat) : Int) (shf (fB x.feet) (rkF (rkAt rs (x.rank % rs.length)))) (((x.rank % rs.length + 1) % rs.length : Nat) : Int)
    (shf (fB x.feet) (rkF (rkAt rs ((x.rank % rs.length + 1) % rs.length)))) (low + ((x.at_ : Int).tmod (high - low + 1))) (x.kind % 6)
   refine ⟨?_, fun g hg => ?_⟩
   ·show (xh _ _ _ _ _ _ _ _).length ≤ _;omega
   ·have := q2 g hg;show g.draws.els.length ≤ _;omega
  ·exact zaQ rs low high l _ s h
theorem zoZ (p : Pln) (hf : zex p = true) : (mk18 p).ok := by
 obtain ⟨f1, f2, f3, f4, f5, f6⟩ := za6 hf;have hd : ∀ (rs : List Rank) (l : List Boa) (i : Nat), (∀ b ∈ l, b.stops.els.length ≤ 3) → ∀ d ∈ vE rs i l, d.ok := by
  intro rs l
  induction l with
  | nil => intro i _ d h; cases h
  | cons b l ih =>
   intro i H d h;rcases List.mem_cons.1 h with rfl | h
   ·have := H b (List.mem_cons_self ..);refine ⟨?_, fun s hs => ?_⟩
    ·show (grow (wg rs (lowB b) (zbA b) 0 b.stops.els)).els.length ≤ _;rw [yA, jE]; omega
    ·have hs : s ∈ (grow (wg rs (lowB b) (zbA b) 0 b.stops.els)).els := hs;rw [yA] at hs;exact zaQ rs _ _ _ _ s hs
   ·exact ih (i + 1) (fun b hb => H b (List.mem_cons_of_mem _ hb)) d h
 unfold mk18;refine ⟨?_, fun r hr => ?_, ?_, fun d h => ?_, ?_⟩
 ·simp only [yA, ke]; omega
 ·simp only [yA] at hr; exact qB _ _ r hr
 ·simp only [yA, vC]; omega
 ·simp only [yA] at h; exact hd _ _ _ f6 d h
 ·simp only [yA, kY]; omega
end Go.Proofs.Tryz.Kn
end
section
namespace Go.Proofs.Tryz.Kn
open Go Go.CE Go.PE
def shrI (a : Int) (n : Nat) : Int := Int.fdiv a (2 ^ (min n 64))
theorem pShr {k : IntKind} (a : Int) (n : Nat) : jo false (U64 a) (.int k (n : Int)) = some (U64 (shrI a n)) := by
 have h : ltI (n : Int) 0 = false := by rw [uI]; exact decide_eq_false (by omega)
 show oD (zdf .u64 a (n : Int)) = _;unfold zdf;rw [h, cond_false];rfl
theorem neqU (a b : Int) : pBin .neq (U64 a) (U64 b) = some (Bo (!(a == b))) := yz _ _ _
abbrev enU (n : Int) : List DV := [U64 n]
structure Reg where
 stops : Sl Int
 cpls : Int
 off : Int
def y4 (r : Reg) : List DV := [enL 1 enU r.stops, U64 r.cpls, U64 r.off]
def zjk (r : Reg) : Prop := r.stops.els.length ≤ 9223372036854775807
def qy : List Divn → List Int → Bool
 | d :: ds, s :: ss => !(shrI s d.stops.els.length == 0) || qy ds ss
 | _, _ => false
def jn (o : Org) (r : Reg) : Int :=
 if wl o ≠ 0 then wl o else if r.stops.els.length ≠ o.divs.els.length then 5 else if qy o.divs.els r.stops.els = true then 3
 else if shrI r.cpls o.cpls.els.length ≠ 0 then 3 else if shrI r.off o.divs.els.length ≠ 0 then 3 else 0
theorem l24 (dv : Sl Divn) (hd : dv.els.length ≤ 9223372036854775807) (st : Sl Int) (hl : st.els.length = dv.els.length) : ∀ (ds : List Divn) (ss : List Int) (i : Nat), dv.els.drop i = ds → st.els.drop i = ss →
  ya (zlm (I6 (dv.els.length : Int)) (enL 5 enV dv) (enL 1 enU st)) [I6 (i : Int)] [] = some (if qy ds ss = true then (.ret, [I6 3], []) else (.exit 0, [], [])) := by
 intro ds
 induction ds with
 | nil =>
  intro ss i h _;refine zE ?_;simp only [zlm, zJ, zt, zb, x9 (ym h), zw];rfl
 | cons d ds ih =>
  intro ss i h h';have h1 := yO h;cases ss with
  | nil => have := ym h'; omega
  | cons s ss =>
   have ea : pBin .add (I6 (i : Int)) (I6 1) = some (I6 ((i + 1 : Nat) : Int)) := xa;have body : zlm (I6 (dv.els.length : Int)) (enL 5 enV dv) (enL 1 enU st) [I6 (i : Int)] [] = some (if shrI s d.stops.els.length = 0 then (.normal, [I6 ((i + 1 : Nat) : Int)], []) else (.ret, [I6 3], [])) := by
    simp only [zlm, zJ, zt, zb, lt_i h1, zw, if_true, yb h, yb h', enV, wR, vS, zL, pShr, neqU, ea];by_cases hz : shrI s d.stops.els.length = 0 <;> simp [hz]
   by_cases hc : shrI s d.stops.els.length = 0
   ·rw [if_pos hc] at body; rw [z5 body, ih ss (i + 1) (z6 h) (z6 h')]; simp [qy, hc]
   ·rw [if_neg hc] at body; rw [zD body]; simp [qy, hc]
theorem t24 (k : Nat) (o : Org) (ho : o.ok) (r : Reg) : D (k + 10) 24 [SA (enO o), SA (y4 r)] = some (S1 (I6 (jn o r))) := by
 have c := t36 k o ho;unfold enO at c ⊢;unfold y4;rw [D24];unfold P24 jn;simp only [c, ye, yz, zb, zw, zL];by_cases h1 : wl o = 0
 ·by_cases h2 : r.stops.els.length = o.divs.els.length
  ·have e : (!((r.stops.els.length : Int) == (o.divs.els.length : Int))) = false := by simp [h2]
   have l := l24 o.divs ho.dl r.stops h2 o.divs.els r.stops.els 0 rfl rfl;simp only [h1, h2, beq_self_eq_true, Bool.not_true, Bool.false_eq_true, if_false, ne_eq, not_true_eq_false];rw [show (I6 0 : DV) = I6 ((0 : Nat) : Int) from rfl, l]
   cases qy o.divs.els r.stops.els with
   | true => rfl
   | false =>
    simp only [Bool.false_eq_true, if_false, y2, Nat.beq_refl, cond_true, pShr, zb, neqU, zw];by_cases h3 : shrI r.cpls o.cpls.els.length = 0
    ·by_cases h4 : shrI r.off o.divs.els.length = 0 <;> simp [h3, h4]
    ·simp [h3]
  ·have e : (!((r.stops.els.length : Int) == (o.divs.els.length : Int))) = true := by
    have : ¬ ((r.stops.els.length : Int) = (o.divs.els.length : Int)) := by omega
    simp [this]
   simp [h1, h2, e]
 ·simp [h1]
theorem zaB {o : Org} (h : wl o = 0) : o.divs.els.length ≤ 8 ∧ 0 < o.divs.els.length := by
 unfold wl at h;split at h
 ·cases h
 split at h
 ·cases h
 split at h
 ·contradiction
 split at h
 ·cases h
 split at h
 ·cases h
 omega
end Go.Proofs.Tryz.Kn
end
section
namespace Go.Proofs.Tryz.Kn
open Go Go.CE Go.PE
theorem zpY {β : Type} (o : Org) (K : List DV → Option β) : bA 4 (some (SA (enO o))) K = K (enO o) := rfl
theorem zrE (o : Org) : [atD (enO o) 0, atD (enO o) 1, atD (enO o) 2, atD (enO o) 3] = enO o := rfl
end Go.Proofs.Tryz.Kn
end
section
namespace Go.Proofs.Tryz.Kn
open Go Go.CE Go.PE
theorem zt0 (l : List (List DV)) : appO (some []) l = some l := by cases l <;> rfl
def enB (b : Nat → Nat) : List DV := [U8 (b 0 : Int), U8 (b 1 : Int), U8 (b 2 : Int), U8 (b 3 : Int), U8 (b 4 : Int)]
theorem ztL (rs : List Rank) : ∀ (l : List Boa) (i : Nat), (∀ b ∈ l, b.stops.els.length ≤ 3) → ∀ d ∈ vE rs i l, d.stops.els.length ≤ 3
 | [], _, _, _, h => by cases h
 | b :: l, i, H, d, h => by
  rcases List.mem_cons.1 h with rfl | h
  ·have := H b (List.mem_cons_self ..);show (grow (wg rs (lowB b) (zbA b) 0 b.stops.els)).els.length ≤ 3;rw [yA, jE]; exact this
  ·exact ztL rs l (i + 1) (fun x hx => H x (List.mem_cons_of_mem _ hx)) d h
theorem ztV (p : Pln) (hf : zex p = true) : (mk18 p).divs.els.length ≤ 3 ∧ (∀ d ∈ (mk18 p).divs.els, d.stops.els.length ≤ 3) ∧ (mk18 p).cpls.els.length ≤ 3 := by
 obtain ⟨f1, f2, f3, f4, f5, f6⟩ := za6 hf;unfold mk18;refine ⟨?_, ?_, ?_⟩
 ·simp only [yA, vC]; exact f4
 ·simp only [yA]; exact ztL _ _ _ f6
 ·simp only [yA, kY]; exact f5
end Go.Proofs.Tryz.Kn
end
section
namespace Go.Proofs.Tryz.Kn
open Go Go.CE Go.PE
theorem pick (l : List (List DV)) (h : 0 < l.length) (a : Nat) : ∃ x ∈ l, ∀ {β : Type} (K : List DV → Option β), za (qP (some l) (U8 ((a % l.length : Nat) : Int))) (fun n => za (nthO (some l) n) K) = K x := by
 have hi : a % l.length < l.length := Nat.mod_lt _ h;refine ⟨l[a % l.length], List.getElem_mem hi, fun K => ?_⟩
 rw [zcQ hi, zb];show za (l[a % l.length]?) K = _;rw [Lz5 hi]; rfl
theorem setP {α : Type} {f : α → List DV} {st off : Nat} {l : List α} {i : Nat} {x x' : α} {ds : List DV} (hx : l[i]? = some x) (hle : off + ds.length ≤ st) (h : (f x).take off ++ ds ++ (f x).drop (off + ds.length) = f x') :
  setO st (some (l.map f)) i off ds = some (some ((l.set i x').map f)) := by
 unfold setO;have hg : (l.map f)[i]? = some (f x) := by rw [Lz6, hx]; rfl
 simp only [hg, Nat.ble_eq_true_of_le hle, cond_true, h, List.map_set]
theorem zz {nm : ByteArray} {rs : List Rank} {dv : Sl Divn} {cp : List Cpl} (h1 : rs.length ≤ 1000) (h2 : ∀ r ∈ rs, zbU r) (h3 : dv.els.length ≤ 1000) (h4 : ∀ d ∈ dv.els, d.ok) (h5 : cp.length ≤ 1000) : Org.ok ⟨nm, some rs, dv, some cp⟩ :=
 ⟨by show rs.length ≤ _; omega, h2, by show dv.els.length ≤ _; omega, h4, by show cp.length ≤ _; omega⟩
theorem ztN {α : Type} {q : α → Prop} {l : List α} {i : Nat} {x : α} (h : ∀ a ∈ l, q a) (hx : q x) : ∀ a ∈ l.set i x, q a := fun _ ha => (List.mem_or_eq_of_mem_set ha).elim (h _) (fun e => e ▸ hx)
theorem ztP (n : Nat) (hn : n ≤ 100) : ∃ v w : Int, pBin .quo (I6 (n : Int)) (I6 10) = some (I6 ((n / 10 : Nat) : Int)) ∧ pBin .add (I6 48) (I6 ((n / 10 : Nat) : Int)) = some (I6 v) ∧ yQ .u8 (I6 v) = some (U8 v) ∧
  pBin .rem (I6 (n : Int)) (I6 10) = some (I6 ((n % 10 : Nat) : Int)) ∧ pBin .add (I6 48) (I6 ((n % 10 : Nat) : Int)) = some (I6 w) ∧ yQ .u8 (I6 w) = some (U8 w) := by
 have h1 : n % 10 < 10 := Nat.mod_lt _ (by decide)
 have h2 : n / 10 ≤ 10 := by omega
 have c : ∀ v : Int, 0 ≤ v → v ≤ 255 → yQ .u8 (I6 v) = some (U8 v) := fun v a b => by
  show some (DV.int .u8 (xK .u8 v)) = _;rw [zlt]; congr 2; omega
 exact ⟨48 + ((n / 10 : Nat) : Int), 48 + ((n % 10 : Nat) : Int), quoN (b := 10) (by decide) (wrap64 (by omega) (by omega)), xa, c _ (by omega) (by omega), remN (b := 10) (by decide), xa, c _ (by omega) (by omega)⟩
theorem ztT (c : UInt8) (v w : Int) {β : Type} (K : DV → Option β) : za (pB2s (.lst 1 [[U8 v], [U8 w]])) (fun s => za (pStr .add (.str ⟨#[c]⟩) s) K) = K (St (⟨#[c]⟩ ++ zau [v, w] ByteArray.empty)) := rfl
theorem zt1 (c : UInt8) (v : Int) {β : Type} (K : DV → Option β) : za (pB2s (.lst 1 [[U8 v]])) (fun s => za (pStr .add (.str ⟨#[c]⟩) s) K) = K (St (⟨#[c]⟩ ++ zau [v] ByteArray.empty)) := rfl
theorem zur (a : Nat) (nm : DV) (m1 m2 : OC) : ∀ (m : Nat) (l : List Rank), 0 < l.length → l.length ≤ 60 + a % 2 → 60 + a % 2 - l.length = m → (∀ r ∈ l, zbU r) →
  ∃ l' : List Rank, l'.length ≤ 61 ∧ (∀ r ∈ l', zbU r) ∧ ya (ztR (U8 (a : Int))) [nm] [some (l.map enR), m1, m2] = some (.exit 1, [nm], [some (l'.map enR), m1, m2]) := by
 have e1 : pBin .rem (U8 (a : Int)) (U8 2) = some (U8 ((a % 2 : Nat) : Int)) := remN (b := 2) (by decide)
 have ha : a % 2 < 2 := Nat.mod_lt _ (by decide)
 have e2 : yQ .i64 (U8 ((a % 2 : Nat) : Int)) = some (I6 ((a % 2 : Nat) : Int)) := ju;have e3 : pBin .add (I6 60) (I6 ((a % 2 : Nat) : Int)) = some (I6 ((60 + a % 2 : Nat) : Int)) := by
  rw [show ((60 + a % 2 : Nat) : Int) = 60 + ((a % 2 : Nat) : Int) by omega]; exact xa
 intro m
 induction m with
 | zero =>
  intro l h0 h1 h2 h3;refine ⟨l, by omega, h3, zE ?_⟩
  have : decide ((l.length : Int) < ((60 + a % 2 : Nat) : Int)) = false := x9 (by omega)
  simp only [ztR, e1, e2, e3, zb, xN, qA, zJ, zel, List.length_map, zea, zt, this, zw];rfl
 | succ m ih =>
  intro l h0 h1 h2 h3;have hlt : decide ((l.length : Int) < ((60 + a % 2 : Nat) : Int)) = true := lt_i (by omega)
  obtain ⟨x, hx⟩ : ∃ x, l[0]? = some x := ⟨_, Lz5 h0⟩;obtain ⟨v, w, q1, q2, q3, q4, q5, q6⟩ := ztP l.length (by omega)
  have ix : qP (some (l.map enR)) (I6 0) = some 0 := by
   rw [show (I6 0 : DV) = I6 ((0 : Nat) : Int) from rfl]; exact zcQ (by rw [List.length_map]; exact h0)
  have nx : nthO (some (l.map enR)) 0 = some (enR x) := by rw [zgT, hx]; rfl
  have ef : fits 80 (l.length + 1) = true := ug (by decide) (by omega)
  let y : Rank := ⟨⟨#[88]⟩ ++ zau [v, w] ByteArray.empty, x.tone, x.num, x.den, x.first, x.wind⟩
  have hy : zbU y := h3 x (Lz3 hx);have body : ztR (U8 (a : Int)) [nm] [some (l.map enR), m1, m2] = some (.normal, [nm], [some ((l ++ [y]).map enR), m1, m2]) := by
   simp only [ztR, e1, e2, e3, zb, xN, qA, zJ, zel, List.length_map, zea, zt, hlt, zw, if_true, ix, nx, q1, q2, q3, q4, q5, q6, ztT, ef, jH, jM];rw [List.map_append];rfl
  obtain ⟨l', g1, g2, g3⟩ := ih (l ++ [y]) (by simp) (by simp; omega) (by simp; omega) (fun r hr => by
   rcases List.mem_append.1 hr with hr | hr
   ·exact h3 r hr
   ·rw [List.mem_singleton.1 hr]; exact hy)
  exact ⟨l', g1, g2, by rw [z5 body, g3]⟩
theorem zuq (a : Nat) (nm : DV) (m1 m2 : OC) : ∀ (m : Nat) (l : List Divn), l.length ≤ 8 + a % 2 → 8 + a % 2 - l.length = m → (∀ r ∈ l, r.ok) →
  ∃ l' : List Divn, l <+: l' ∧ l'.length ≤ 9 ∧ (∀ r ∈ l', r.ok) ∧ ya (ztQ (U8 (a : Int))) [nm] [m1, some (l.map enV), m2] = some (.exit 3, [nm], [m1, some (l'.map enV), m2]) := by
 have e1 : pBin .rem (U8 (a : Int)) (U8 2) = some (U8 ((a % 2 : Nat) : Int)) := remN (b := 2) (by decide)
 have ha : a % 2 < 2 := Nat.mod_lt _ (by decide)
 have e2 : yQ .i64 (U8 ((a % 2 : Nat) : Int)) = some (I6 ((a % 2 : Nat) : Int)) := ju;have e3 : pBin .add (I6 8) (I6 ((a % 2 : Nat) : Int)) = some (I6 ((8 + a % 2 : Nat) : Int)) := by
  rw [show ((8 + a % 2 : Nat) : Int) = 8 + ((a % 2 : Nat) : Int) by omega]; exact xa
 intro m
 induction m with
 | zero =>
  intro l h1 h2 h3;refine ⟨l, List.prefix_refl l, by omega, h3, zE ?_⟩
  have : decide ((l.length : Int) < ((8 + a % 2 : Nat) : Int)) = false := x9 (by omega)
  simp only [ztQ, e1, e2, e3, zb, xN, qA, zJ, zel, List.length_map, zea, zt, this, zw];rfl
 | succ m ih =>
  intro l h1 h2 h3;have hlt : decide ((l.length : Int) < ((8 + a % 2 : Nat) : Int)) = true := lt_i (by omega)
  have q2 : pBin .add (I6 48) (I6 (l.length : Int)) = some (I6 (48 + (l.length : Int))) := xa;have q3 : yQ .u8 (I6 (48 + (l.length : Int))) = some (U8 (48 + (l.length : Int))) := by
   show some (DV.int .u8 (xK .u8 (48 + (l.length : Int)))) = _;rw [zlt]; congr 2; omega
  have ef : fits 64 (l.length + 1) = true := ug (by decide) (by omega)
  let y : Divn := ⟨⟨#[69]⟩ ++ zau [48 + (l.length : Int)] ByteArray.empty, false, 0, 0, none⟩
  have hy : y.ok := ⟨by show (0 : Nat) ≤ _; omega, fun s hs => by cases hs⟩
  have body : ztQ (U8 (a : Int)) [nm] [m1, some (l.map enV), m2] = some (.normal, [nm], [m1, some ((l ++ [y]).map enV), m2]) := by
   simp only [ztQ, e1, e2, e3, zb, xN, qA, zJ, zel, List.length_map, zea, zt, hlt, zw, if_true, q2, q3, zt1, ef, jH, jM];rw [List.map_append];rfl
  obtain ⟨l', g0, g1, g2, g3⟩ := ih (l ++ [y]) (by simp; omega) (by simp; omega) (fun r hr => by
   rcases List.mem_append.1 hr with hr | hr
   ·exact h3 r hr
   ·rw [List.mem_singleton.1 hr]; exact hy)
  exact ⟨l', (List.prefix_append l [y]).trans g0, g1, g2, by rw [z5 body, g3]⟩
theorem zuc (a : Nat) (c0 c1 c2 c3 : DV) : ∀ (m : Nat) (l : List Stop), 0 < l.length → l.length ≤ 60 + a % 2 → 60 + a % 2 - l.length = m → (∀ r ∈ l, r.ok) →
  ∃ l' : List Stop, l'.length ≤ 61 ∧ (∀ r ∈ l', r.ok) ∧ ya (ztO (U8 (a : Int))) [c0, c1, c2, c3] [some (l.map wn)] = some (.exit 5, [c0, c1, c2, c3], [some (l'.map wn)]) := by
 have e1 : pBin .rem (U8 (a : Int)) (U8 2) = some (U8 ((a % 2 : Nat) : Int)) := remN (b := 2) (by decide)
 have ha : a % 2 < 2 := Nat.mod_lt _ (by decide)
 have e2 : yQ .i64 (U8 ((a % 2 : Nat) : Int)) = some (I6 ((a % 2 : Nat) : Int)) := ju;have e3 : pBin .add (I6 60) (I6 ((a % 2 : Nat) : Int)) = some (I6 ((60 + a % 2 : Nat) : Int)) := by
  rw [show ((60 + a % 2 : Nat) : Int) = 60 + ((a % 2 : Nat) : Int) by omega]; exact xa
 intro m
 induction m with
 | zero =>
  intro l h0 h1 h2 h3;refine ⟨l, by omega, h3, zE ?_⟩
  have : decide ((l.length : Int) < ((60 + a % 2 : Nat) : Int)) = false := x9 (by omega)
  simp only [ztO, e1, e2, e3, zb, xN, zJ, y5, zel, List.length_map, zea, zt, this, zw];rfl
 | succ m ih =>
  intro l h0 h1 h2 h3;have hlt : decide ((l.length : Int) < ((60 + a % 2 : Nat) : Int)) = true := lt_i (by omega)
  obtain ⟨x, hx⟩ : ∃ x, l[0]? = some x := ⟨_, Lz5 h0⟩;obtain ⟨v, w, q1, q2, q3, q4, q5, q6⟩ := ztP l.length (by omega)
  have ix : qP (some (l.map wn)) (I6 0) = some 0 := by
   rw [show (I6 0 : DV) = I6 ((0 : Nat) : Int) from rfl]; exact zcQ (by rw [List.length_map]; exact h0)
  have nx : nthO (some (l.map wn)) 0 = some (wn x) := by rw [zgT, hx]; rfl
  have ef : fits 56 (l.length + 1) = true := ug (by decide) (by omega)
  let y : Stop := ⟨⟨#[89]⟩ ++ zau [v, w] ByteArray.empty, x.num, x.den, x.segs⟩
  have hy : y.ok := ⟨(h3 x (Lz3 hx)).len, (h3 x (Lz3 hx)).segs⟩;have body : ztO (U8 (a : Int)) [c0, c1, c2, c3] [some (l.map wn)] = some (.normal, [c0, c1, c2, c3], [some ((l ++ [y]).map wn)]) := by
   simp only [ztO, e1, e2, e3, zb, xN, zJ, y5, zel, List.length_map, zea, zt, hlt, zw, if_true, ix, nx, q1, q2, q3, q4, q5, q6, ztT, ef, jH, jM];rw [List.map_append];rfl
  obtain ⟨l', g1, g2, g3⟩ := ih (l ++ [y]) (by simp) (by simp; omega) (by simp; omega) (fun r hr => by
   rcases List.mem_append.1 hr with hr | hr
   ·exact h3 r hr
   ·rw [List.mem_singleton.1 hr]; exact hy)
  exact ⟨l', g1, g2, by rw [z5 body, g3]⟩
set_option maxHeartbeats 4000000 in
theorem t35 (k : Nat) (o : Org) (ho : o.ok) (hr0 : 0 < o.ranks.els.length) (hr3 : o.ranks.els.length ≤ 3) (hd0 : 0 < o.divs.els.length) (hd3 : o.divs.els.length ≤ 3) (hc3 : o.cpls.els.length ≤ 3) (hs3 : ∀ d ∈ o.divs.els, d.stops.els.length ≤ 3) (kd a : Nat) (ha : a < 256) :
  ∃ o2 : Org, o2.ok ∧ D (k + 1) 35 [SA (enO o), SA [U8 (kd : Int), U8 (a : Int)]] = some (SA (enO o2)) := by
 obtain ⟨nm, rk, dd, cc⟩ := o;have hrk := ho.ranks;have hdk := ho.divs;simp only at hr0 hr3 hd0 hd3 hc3 hs3 hrk hdk;generalize hrs : rk.els = rs at hr0 hr3 hrk;generalize hdv : dd.els = dv at hd0 hd3 hs3 hdk;generalize hcp : cc.els = cp at hc3;unfold enO;rw [D35];unfold P35;have g1 : fits 80 (0 + rs.length) = true := ug (by decide) (by omega)
 have g2 : fits 64 (0 + dv.length) = true := ug (by decide) (by omega)
 have g3 : fits 48 (0 + cp.length) = true := ug (by decide) (by omega)
 have e1 : yQ .i64 (U8 (a : Int)) = some (I6 (a : Int)) := ju;have e2 : pBin .rem (I6 (a : Int)) (I6 (rs.length : Int)) = some (I6 ((a % rs.length : Nat) : Int)) := remN (by omega)
 have e3 : pBin .rem (I6 (a : Int)) (I6 (dv.length : Int)) = some (I6 ((a % dv.length : Nat) : Int)) := remN (by omega)
 have hj : a % rs.length < rs.length := Nat.mod_lt _ hr0;have hi : a % dv.length < dv.length := Nat.mod_lt _ hd0;generalize a % rs.length = j at e2 hj;generalize a % dv.length = i at e3 hi;obtain ⟨r, hr⟩ : ∃ r, rs[j]? = some r := ⟨_, Lz5 hj⟩;obtain ⟨d, hd⟩ : ∃ d, dv[i]? = some d := ⟨_, Lz5 hi⟩;have hrm := hrk r (Lz3 hr);have hdm := hdk d (Lz3 hd);have hsm := hs3 d (Lz3 hd);have ixd : qP (some (dv.map enV)) (I6 (i : Int)) = some i := zcQ (by rw [List.length_map]; exact hi)
 have ixr : qP (some (rs.map enR)) (I6 (j : Int)) = some j := zcQ (by rw [List.length_map]; exact hj)
 have nxd : nthO (some (dv.map enV)) i = some (enV d) := by rw [zgT, hd]; rfl
 have lt : decide ((i : Int) < (dv.length : Int)) = true := lt_i hi;have q4 : atD (enV d) 4 = enL 4 wn d.stops := rfl;have g4 : fits 56 (0 + d.stops.els.length) = true := ug (by decide) (by omega)
 have m4 : pBin .rem (U8 (a : Int)) (U8 4) = some (U8 ((a % 4 : Nat) : Int)) := remN (b := 4) (by decide)
 have m3 : pBin .rem (U8 (a : Int)) (U8 3) = some (U8 ((a % 3 : Nat) : Int)) := remN (b := 3) (by decide)
 have std : ∀ d' : Divn, setO 5 (some (dv.map enV)) i 0 (enV d') = some (some ((dv.set i d').map enV)) := fun d' => setP hd (Lz4 rfl) rfl
 have d0 : setO 5 (some (dv.map enV)) i 0 [atD (enV d) 0, atD (enV d) 1, atD (enV d) 2, atD (enV d) 3, mkL 4 (some (d.stops.els.map wn))] = some (some ((dv.set i ⟨d.name, d.pedal, d.low, d.high, some d.stops.els⟩).map enV)) := std ⟨d.name, d.pedal, d.low, d.high, some d.stops.els⟩;have okd : ∀ (nm' : ByteArray) (lo hi' : Int), Divn.ok ⟨nm', d.pedal, lo, hi', some d.stops.els⟩ := fun _ _ _ => ⟨by show d.stops.els.length ≤ _; omega, hdm.stops⟩
 have dvok : ∀ d' : Divn, d'.ok → ∀ x ∈ dv.set i d', x.ok := fun d' h => ztN hdk h
 have em : pBin .rem (U8 (kd : Int)) (U8 16) = some (U8 ((kd % 16 : Nat) : Int)) := remN (b := 16) (by decide)
 have hk : kd % 16 < 16 := Nat.mod_lt _ (by decide)
 generalize kd % 16 = q at em hk;simp only [zp9, hrs, hdv, hcp, zb, zel, List.length_nil, List.length_map, g1, g2, g3, jH, zt0, e1, zea, e2, e3, ixd, nxd, q4, g4, em, wt, zw, zt, lt, if_true, d0];have hq : q = 0 ∨ q = 1 ∨ q = 2 ∨ q = 3 ∨ q = 4 ∨ q = 5 ∨ q = 6 ∨ q = 7 ∨ q = 8 ∨ q = 9 ∨ q = 10 ∨ q = 11 ∨ q = 12 ∨ q = 13 ∨ q = 14 ∨ q = 15 := by omega
 have dflt : ∃ o2 : Org, o2.ok ∧ (some (SA [St nm, mkL 6 (some (rs.map enR)), mkL 5 (some ((dv.set i ⟨d.name, d.pedal, d.low, d.high, some d.stops.els⟩).map enV)), mkL 5 (some (cp.map enC))]) : Option DA) = some (SA (enO o2)) :=
  ⟨⟨nm, some rs, some (dv.set i ⟨d.name, d.pedal, d.low, d.high, some d.stops.els⟩), some cp⟩, zz (by omega) hrk (by rw [yV, List.length_set]; omega) (dvok _ (okd _ _ _)) (by omega), rfl⟩
 rcases hq with h | h | h | h | h | h | h | h | h | h | h | h | h | h | h | h <;> subst h
 ·exact dflt
 ·
  obtain ⟨x, hx, pk⟩ := pick [[St ⟨#[]⟩], [St ⟨#[55]⟩], [St ⟨#[97, 32, 98]⟩], [St ⟨#[70, 105, 110, 101]⟩]] (by decide) a
  obtain ⟨s, rfl⟩ : ∃ s, x = [St s] := by
   simp only [List.mem_cons, List.not_mem_nil, or_false] at hx;rcases hx with rfl | rfl | rfl | rfl <;> exact ⟨_, rfl⟩
  have pk' : ∀ {β : Type} (K : List DV → Option β), za (qP (some [[(.str ⟨#[]⟩)], [(.str ⟨#[55]⟩)], [(.str ⟨#[97, 32, 98]⟩)], [(.str ⟨#[70, 105, 110, 101]⟩)]]) (U8 ((a % 4 : Nat) : Int))) (fun n => za (nthO (some [[(.str ⟨#[]⟩)], [(.str ⟨#[55]⟩)], [(.str ⟨#[97, 32, 98]⟩)], [(.str ⟨#[70, 105, 110, 101]⟩)]]) n) K) = K [St s] := pk
  refine ⟨⟨s, some rs, some (dv.set i ⟨d.name, d.pedal, d.low, d.high, some d.stops.els⟩), some cp⟩, zz (by omega) hrk (by rw [yV, List.length_set]; omega) (dvok _ (okd _ _ _)) (by omega), ?_⟩
  rw [if_pos (by rfl)]
  simp only [m4, zb, pk', wR];rfl
 ·
  have sr : setO 6 (some (rs.map enR)) j 5 [.nils] = some (some ((rs.set j ⟨r.name, r.tone, r.num, r.den, r.first, none⟩).map enR)) := setP hr (Lz4 rfl) rfl
  refine ⟨⟨nm, some (rs.set j ⟨r.name, r.tone, r.num, r.den, r.first, none⟩), some (dv.set i ⟨d.name, d.pedal, d.low, d.high, some d.stops.els⟩), some cp⟩, zz (by rw [List.length_set]; omega) (ztN hrk (by show (0 : Nat) ≤ _; omega)) (by rw [yV, List.length_set]; omega) (dvok _ (okd _ _ _)) (by omega), ?_⟩
  rw [if_neg (by decide), if_pos (by rfl)]
  simp only [ixr, zb, sr];rfl
 ·
  obtain ⟨x, hx, pk⟩ := pick [[St ⟨#[]⟩], [St ⟨#[82, 48]⟩], [St ⟨#[82, 57]⟩]] (by decide) a
  obtain ⟨s, rfl⟩ : ∃ s, x = [St s] := by
   simp only [List.mem_cons, List.not_mem_nil, or_false] at hx;rcases hx with rfl | rfl | rfl <;> exact ⟨_, rfl⟩
  have pk' : ∀ {β : Type} (K : List DV → Option β), za (qP (some [[(.str ⟨#[]⟩)], [(.str ⟨#[82, 48]⟩)], [(.str ⟨#[82, 57]⟩)]]) (U8 ((a % 3 : Nat) : Int))) (fun n => za (nthO (some [[(.str ⟨#[]⟩)], [(.str ⟨#[82, 48]⟩)], [(.str ⟨#[82, 57]⟩)]]) n) K) = K [St s] := pk
  have sr : setO 6 (some (rs.map enR)) j 0 [St s] = some (some ((rs.set j ⟨s, r.tone, r.num, r.den, r.first, r.wind⟩).map enR)) := setP hr (Lz4 rfl) rfl
  refine ⟨⟨nm, some (rs.set j ⟨s, r.tone, r.num, r.den, r.first, r.wind⟩), some (dv.set i ⟨d.name, d.pedal, d.low, d.high, some d.stops.els⟩), some cp⟩, zz (by rw [List.length_set]; omega) (ztN hrk hrm) (by rw [yV, List.length_set]; omega) (dvok _ (okd _ _ _)) (by omega), ?_⟩
  rw [if_neg (by decide), if_neg (by decide), if_pos (by rfl)]
  simp only [m3, zb, pk', ixr, wR, sr];rfl
 ·
  obtain ⟨l', h1, h2, h3⟩ := zur a (St nm) (some (dv.map enV)) (some (cp.map enC)) (60 + a % 2 - rs.length) rs hr0 (by omega) rfl hrk
  refine ⟨⟨nm, some l', some (dv.set i ⟨d.name, d.pedal, d.low, d.high, some d.stops.els⟩), some cp⟩, zz (by omega) h2 (by rw [yV, List.length_set]; omega) (dvok _ (okd _ _ _)) (by omega), ?_⟩
  rw [if_neg (by decide), if_neg (by decide), if_neg (by decide), if_pos (by rfl), h3]
  simp only [y2, Nat.beq_refl, cond_true, xN, qA, zJ, zel, List.length_map, lt, ixd, zb, d0, if_true];rfl
 ·
  refine ⟨⟨nm, some rs, none, some cp⟩, zz (by omega) hrk (by show (0 : Nat) ≤ _; omega) (fun x hx => by cases hx) (by omega), ?_⟩
  have hneg : decide ((i : Int) < 0) = false := decide_eq_false (by omega)
  rw [if_neg (by decide), if_neg (by decide), if_neg (by decide), if_neg (by decide), if_pos (by rfl)]
  simp only [zqM, zb, zt, zw, hneg];rfl
 ·
  obtain ⟨l', hp, h1, h2, h3⟩ := zuq a (St nm) (some (rs.map enR)) (some (cp.map enC)) (8 + a % 2 - dv.length) dv (by omega) rfl hdk
  have hi' : i < l'.length := Lz9 hi hp.length_le;have hd' : l'[i]? = some d := by
   obtain ⟨t, rfl⟩ := hp;rw [Lz2 hi]; exact hd
  have lt' : decide ((i : Int) < (l'.length : Int)) = true := lt_i hi';have ixd' : qP (some (l'.map enV)) (I6 (i : Int)) = some i := zcQ (by rw [List.length_map]; exact hi')
  have d0' : setO 5 (some (l'.map enV)) i 0 [atD (enV d) 0, atD (enV d) 1, atD (enV d) 2, atD (enV d) 3, mkL 4 (some (d.stops.els.map wn))] = some (some ((l'.set i ⟨d.name, d.pedal, d.low, d.high, some d.stops.els⟩).map enV)) := setP (x' := ⟨d.name, d.pedal, d.low, d.high, some d.stops.els⟩) hd' (Lz4 rfl) rfl;refine ⟨⟨nm, some rs, some (l'.set i ⟨d.name, d.pedal, d.low, d.high, some d.stops.els⟩), some cp⟩, zz (by omega) hrk (by rw [yV, List.length_set]; omega) (ztN h2 (okd _ _ _)) (by omega), ?_⟩
  rw [if_neg (by decide), if_neg (by decide), if_neg (by decide), if_neg (by decide), if_neg (by decide), if_pos (by rfl), h3]
  simp only [y2, Nat.beq_refl, cond_true, xN, qA, zJ, zel, List.length_map, lt', ixd', zb, d0', if_true];rfl
 ·
  obtain ⟨x, hx, pk⟩ := pick [[St ⟨#[]⟩], [St ⟨#[68, 48]⟩], [St ⟨#[68, 49]⟩], [St ⟨#[83, 111, 108, 111]⟩]] (by decide) a
  obtain ⟨s, rfl⟩ : ∃ s, x = [St s] := by
   simp only [List.mem_cons, List.not_mem_nil, or_false] at hx;rcases hx with rfl | rfl | rfl | rfl <;> exact ⟨_, rfl⟩
  have pk' : ∀ {β : Type} (K : List DV → Option β), za (qP (some [[(.str ⟨#[]⟩)], [(.str ⟨#[68, 48]⟩)], [(.str ⟨#[68, 49]⟩)], [(.str ⟨#[83, 111, 108, 111]⟩)]]) (U8 ((a % 4 : Nat) : Int))) (fun n => za (nthO (some [[(.str ⟨#[]⟩)], [(.str ⟨#[68, 48]⟩)], [(.str ⟨#[68, 49]⟩)], [(.str ⟨#[83, 111, 108, 111]⟩)]]) n) K) = K [St s] := pk
  have dn : setO 5 (some (dv.map enV)) i 0 [St s, atD (enV d) 1, atD (enV d) 2, atD (enV d) 3, mkL 4 (some (d.stops.els.map wn))] = some (some ((dv.set i ⟨s, d.pedal, d.low, d.high, some d.stops.els⟩).map enV)) := std ⟨s, d.pedal, d.low, d.high, some d.stops.els⟩;refine ⟨⟨nm, some rs, some (dv.set i ⟨s, d.pedal, d.low, d.high, some d.stops.els⟩), some cp⟩, zz (by omega) hrk (by rw [yV, List.length_set]; omega) (dvok _ (okd _ _ _)) (by omega), ?_⟩
  rw [if_neg (by decide), if_neg (by decide), if_neg (by decide), if_neg (by decide), if_neg (by decide), if_neg (by decide), if_pos (by rfl)]
  simp only [m4, zb, pk', wR, dn];rfl
 ·
  obtain ⟨x, hx, pk⟩ := pick [[I6 (-1), I6 40], [I6 50, I6 40], [I6 0, I6 128], [I6 0, I6 127]] (by decide) a
  obtain ⟨lo, hi2, rfl⟩ : ∃ lo hi2, x = [I6 lo, I6 hi2] := by
   simp only [List.mem_cons, List.not_mem_nil, or_false] at hx;rcases hx with rfl | rfl | rfl | rfl <;> exact ⟨_, _, rfl⟩
  have pk' : ∀ {β : Type} (K : List DV → Option β), za (qP (some [[(I6 (-1)), (I6 40)], [(I6 50), (I6 40)], [(I6 0), (I6 128)], [(I6 0), (I6 127)]]) (U8 ((a % 4 : Nat) : Int))) (fun n => za (nthO (some [[(I6 (-1)), (I6 40)], [(I6 50), (I6 40)], [(I6 0), (I6 128)], [(I6 0), (I6 127)]]) n) K) = K [I6 lo, I6 hi2] := pk
  have dn : setO 5 (some (dv.map enV)) i 0 [atD (enV d) 0, atD (enV d) 1, I6 lo, I6 hi2, mkL 4 (some (d.stops.els.map wn))] = some (some ((dv.set i ⟨d.name, d.pedal, lo, hi2, some d.stops.els⟩).map enV)) := std ⟨d.name, d.pedal, lo, hi2, some d.stops.els⟩;refine ⟨⟨nm, some rs, some (dv.set i ⟨d.name, d.pedal, lo, hi2, some d.stops.els⟩), some cp⟩, zz (by omega) hrk (by rw [yV, List.length_set]; omega) (dvok _ (okd _ _ _)) (by omega), ?_⟩
  rw [if_neg (by decide), if_neg (by decide), if_neg (by decide), if_neg (by decide), if_neg (by decide), if_neg (by decide), if_neg (by decide), if_pos (by rfl)]
  simp only [m4, zb, pk', wR, vS, dn];rfl
 ·
  rw [if_neg (by decide), if_neg (by decide), if_neg (by decide), if_neg (by decide), if_neg (by decide), if_neg (by decide), if_neg (by decide), if_neg (by decide), if_pos (by rfl)]
  simp only [yj, zb, zw];by_cases h0 : 0 < d.stops.els.length
  ·have h0' : (0 : Int) < (d.stops.els.length : Int) := by omega
   obtain ⟨s, hs⟩ : ∃ s, d.stops.els[0]? = some s := ⟨_, Lz5 h0⟩;have ixs : qP (some (d.stops.els.map wn)) (I6 0) = some 0 := by
    rw [show (I6 0 : DV) = I6 ((0 : Nat) : Int) from rfl]; exact zcQ (by rw [List.length_map]; exact h0)
   have nxs : nthO (some (d.stops.els.map wn)) 0 = some (wn s) := by rw [zgT, hs]; rfl
   obtain ⟨x, hx, pk⟩ := pick [[St ⟨#[]⟩], [St ⟨#[83, 49]⟩], [St ⟨#[84]⟩], [St ⟨#[83, 50]⟩]] (by decide) a
   obtain ⟨t, rfl⟩ : ∃ t, x = [St t] := by
    simp only [List.mem_cons, List.not_mem_nil, or_false] at hx;rcases hx with rfl | rfl | rfl | rfl <;> exact ⟨_, rfl⟩
   have pk' : ∀ {β : Type} (K : List DV → Option β), za (qP (some [[(.str ⟨#[]⟩)], [(.str ⟨#[83, 49]⟩)], [(.str ⟨#[84]⟩)], [(.str ⟨#[83, 50]⟩)]]) (U8 ((a % 4 : Nat) : Int))) (fun n => za (nthO (some [[(.str ⟨#[]⟩)], [(.str ⟨#[83, 49]⟩)], [(.str ⟨#[84]⟩)], [(.str ⟨#[83, 50]⟩)]]) n) K) = K [St t] := pk
   have ss : setO 4 (some (d.stops.els.map wn)) 0 0 [St t, atD (wn s) 1, atD (wn s) 2, atD (wn s) 3] = some (some ((d.stops.els.set 0 ⟨t, s.num, s.den, s.segs⟩).map wn)) := setP (x' := ⟨t, s.num, s.den, s.segs⟩) hs (Lz4 rfl) rfl;have dn : setO 5 (some (dv.map enV)) i 0 [atD (enV d) 0, atD (enV d) 1, atD (enV d) 2, atD (enV d) 3, mkL 4 (some ((d.stops.els.set 0 ⟨t, s.num, s.den, s.segs⟩).map wn))] = some (some ((dv.set i ⟨d.name, d.pedal, d.low, d.high, some (d.stops.els.set 0 ⟨t, s.num, s.den, s.segs⟩)⟩).map enV)) := std ⟨d.name, d.pedal, d.low, d.high, some (d.stops.els.set 0 ⟨t, s.num, s.den, s.segs⟩)⟩;have hsok := hdm.stops s (Lz3 hs);refine ⟨⟨nm, some rs, some (dv.set i ⟨d.name, d.pedal, d.low, d.high, some (d.stops.els.set 0 ⟨t, s.num, s.den, s.segs⟩)⟩), some cp⟩, zz (by omega) hrk (by rw [yV, List.length_set]; omega) (dvok _ ⟨by show (List.set _ _ _).length ≤ _; rw [List.length_set]; omega, ztN hdm.stops ⟨hsok.len, hsok.segs⟩⟩) (by omega), ?_⟩
   rw [if_pos (by simpa using h0')]
   simp only [ixs, zb, nxs, m4, pk', wR, ss, dn];rfl
  ·have h0' : ¬ ((0 : Int) < (d.stops.els.length : Int)) := by omega
   rw [if_neg (by simpa using h0')]
   exact dflt
 ·
  rw [if_neg (by decide), if_neg (by decide), if_neg (by decide), if_neg (by decide), if_neg (by decide), if_neg (by decide), if_neg (by decide), if_neg (by decide), if_neg (by decide), if_pos (by rfl)]
  simp only [yj, zb, zw];by_cases h0 : 0 < d.stops.els.length
  ·have h0' : (0 : Int) < (d.stops.els.length : Int) := by omega
   obtain ⟨l', h1, h2, h3⟩ := zuc a (atD (enV d) 0) (atD (enV d) 1) (atD (enV d) 2) (atD (enV d) 3) (60 + a % 2 - d.stops.els.length) d.stops.els h0 (by omega) rfl hdm.stops
   have dn : setO 5 (some (dv.map enV)) i 0 [atD (enV d) 0, atD (enV d) 1, atD (enV d) 2, atD (enV d) 3, mkL 4 (some (l'.map wn))] = some (some ((dv.set i ⟨d.name, d.pedal, d.low, d.high, some l'⟩).map enV)) := std ⟨d.name, d.pedal, d.low, d.high, some l'⟩;refine ⟨⟨nm, some rs, some (dv.set i ⟨d.name, d.pedal, d.low, d.high, some l'⟩), some cp⟩, zz (by omega) hrk (by rw [yV, List.length_set]; omega) (dvok _ ⟨by show l'.length ≤ _; omega, h2⟩) (by omega), ?_⟩
   rw [if_pos (by simpa using h0'), h3]
   simp only [y2, Nat.beq_refl, cond_true, xN, zJ, y5, ixd, zb, dn];rfl
  ·have h0' : ¬ ((0 : Int) < (d.stops.els.length : Int)) := by omega
   rw [if_neg (by simpa using h0')]
   exact dflt
 ·
  have vb : vwB none (some (I6 (j : Int))) rs.length = some (0, j) := by
   unfold vwB;rw [ztz (by omega)]
   rfl
  refine ⟨⟨nm, some (rs.take j), some (dv.set i ⟨d.name, d.pedal, d.low, d.high, some d.stops.els⟩), some cp⟩, zz (by rw [List.length_take]; omega) (fun x hx => hrk x (List.mem_of_mem_take hx)) (by rw [yV, List.length_set]; omega) (dvok _ (okd _ _ _)) (by omega), ?_⟩
  rw [if_neg (by decide), if_neg (by decide), if_neg (by decide), if_neg (by decide), if_neg (by decide), if_neg (by decide), if_neg (by decide), if_neg (by decide), if_neg (by decide), if_neg (by decide), if_pos (by rfl)]
  simp only [vb, zb];have pt : zlZ 6 0 j (mkL 6 (some (rs.map enR))) = enL 6 enR (some (rs.take j)) := by
   show (bif Nat.beq 6 6 then DV.lst 6 (((rs.map enR).drop 0).take j) else .u) = _
   rw [List.drop_zero, ← List.map_take]; rfl
  rw [pt];rfl
 ·
  have m5 : pBin .rem (U8 (a : Int)) (U8 5) = some (U8 ((a % 5 : Nat) : Int)) := remN (b := 5) (by decide)
  have h5 : a % 5 < 5 := Nat.mod_lt _ (by decide)
  have c5 : yQ .i64 (U8 ((a % 5 : Nat) : Int)) = some (I6 ((a % 5 : Nat) : Int)) := ju;have ef : fits 48 (cp.length + 1) = true := ug (by decide) (by omega)
  refine ⟨⟨nm, some rs, some (dv.set i ⟨d.name, d.pedal, d.low, d.high, some d.stops.els⟩), some (cp ++ [⟨⟨#[67, 57]⟩, ((a % 5 : Nat) : Int), 0, 1, false⟩])⟩, zz (by omega) hrk (by rw [yV, List.length_set]; omega) (dvok _ (okd _ _ _)) (by simp; omega), ?_⟩
  rw [if_neg (by decide), if_neg (by decide), if_neg (by decide), if_neg (by decide), if_neg (by decide), if_neg (by decide), if_neg (by decide), if_neg (by decide), if_neg (by decide), if_neg (by decide), if_neg (by decide), if_pos (by rfl)]
  simp only [m5, c5, zb, ef, jH, jM];rw [kI, kI, kI, List.map_append];rfl
 ·
  obtain ⟨x, hx, pk⟩ := pick [[St ⟨#[]⟩], [St ⟨#[67, 48]⟩], [St ⟨#[68, 48]⟩]] (by decide) a
  obtain ⟨s, rfl⟩ : ∃ s, x = [St s] := by
   simp only [List.mem_cons, List.not_mem_nil, or_false] at hx;rcases hx with rfl | rfl | rfl <;> exact ⟨_, rfl⟩
  have pk' : ∀ {β : Type} (K : List DV → Option β), za (qP (some [[(.str ⟨#[]⟩)], [(.str ⟨#[67, 48]⟩)], [(.str ⟨#[68, 48]⟩)]]) (U8 ((a % 3 : Nat) : Int))) (fun n => za (nthO (some [[(.str ⟨#[]⟩)], [(.str ⟨#[67, 48]⟩)], [(.str ⟨#[68, 48]⟩)]]) n) K) = K [St s] := pk
  have ef : fits 48 (cp.length + 1) = true := ug (by decide) (by omega)
  refine ⟨⟨nm, some rs, some (dv.set i ⟨d.name, d.pedal, d.low, d.high, some d.stops.els⟩), some (cp ++ [⟨s, 0, 0, 1, false⟩])⟩, zz (by omega) hrk (by rw [yV, List.length_set]; omega) (dvok _ (okd _ _ _)) (by simp; omega), ?_⟩
  rw [if_neg (by decide), if_neg (by decide), if_neg (by decide), if_neg (by decide), if_neg (by decide), if_neg (by decide), if_neg (by decide), if_neg (by decide), if_neg (by decide), if_neg (by decide), if_neg (by decide), if_neg (by decide), if_pos (by rfl)]
  simp only [m3, pk', zb, ef, jH, jM, wR];rw [kI, kI, kI, List.map_append];rfl
 ·exact dflt
 ·exact dflt
end Go.Proofs.Tryz.Kn
end
section
namespace Go.Proofs.Tryz.Kn
open Go Go.CE Go.PE
def vErr (o : Org) (r : Reg) : Int := if wl o ≠ 0 then wl o else if jn o r ≠ 0 then jn o r else 5
theorem ztY (k : Nat) (o : Org) (ho : o.ok) (r : Reg) : D (k + 12) 34 [SA (enO o), SA (y4 r), S1 .nils] = some (.tup [.one .nils, .one (I6 (vErr o r))]) := by
 have c := t36 (k + 2) o ho;have c' := t36 (k + 1) o ho;have cr := t24 (k + 1) o ho r;have ck : D (k + 11) 72 [SA (enO o), S1 .nils] = some (S1 (I6 (if wl o ≠ 0 then wl o else 5))) := by
  unfold enO at c' ⊢;rw [D72];unfold P72;simp only [c', ye, yz, zb, zw, zqM, zL];by_cases h : wl o = 0
  ·have hd := zaB h;have e : ((0 : Int) == (o.divs.els.length : Int)) = false := by
    have : ¬ ((0 : Int) = (o.divs.els.length : Int)) := by omega
    simp only [beq_eq_false_iff_ne, ne_eq]; exact this
   simp [h, e]
  ·simp [h]
 unfold enO at c cr ck ⊢;unfold y4 at cr ⊢;rw [D34];unfold P34 vErr;simp only [c, ye, yz, zb, zw];by_cases h : wl o = 0
 ·by_cases h2 : jn o r = 0
  ·simp [h, h2, cr, ck, ye]
  ·simp [h, h2, cr, ye]
 ·simp [h]
theorem neI {e : Int} (h : e ≠ 0) : (!(e == 0)) = true := by simp [h]
section
variable (k : Nat) (o : Org) (ho : o.ok) (h : wl o ≠ 0)
include ho h
theorem zt9 : D (k + 12) 28 [SA (enO o)] = some (.tup [.agg [.nils, .nils, I6 0, I6 0, I6 0], .one (I6 (wl o))]) := by
 have c := t36 (k + 2) o ho;unfold enO at c ⊢;rw [D28];unfold P28;simp only [c, ye, yz, zb, zw, neI h, if_true]
theorem zt8 (v : DV) : D (k + 12) 29 [SA (enO o), S1 v] = some (.tup [.one (.str ⟨#[]⟩), .one (I6 (wl o))]) := by
 have c := t36 (k + 2) o ho;unfold enO at c ⊢;rw [D29];unfold P29;simp only [c, ye, yz, zb, zw, neI h, if_true]
theorem zt6 : D (k + 12) 37 [SA (enO o), S1 .nils] = some (.tup [.agg [.nils, U64 0, U64 0], .one .nils, .one (I6 (wl o))]) := by
 have c := t36 (k + 2) o ho;unfold enO at c ⊢;rw [D37];unfold P37;simp only [c, ye, yz, zb, zw, neI h, if_true]
theorem zt5 : D (k + 12) 38 [SA (enO o)] = some (.tup [.agg [.nils, .nils], .one (I6 (wl o))]) := by
 have c := t36 (k + 2) o ho;unfold enO at c ⊢;rw [D38];unfold P38;simp only [c, ye, yz, zb, zw, neI h, if_true]
theorem zt4 (a b : DV) : D (k + 12) 39 [SA (enO o), SA [a, b]] = some (.tup [.agg [I6 0, I6 0, .nils], .one (I6 (wl o))]) := by
 have c := t36 (k + 2) o ho;unfold enO at c ⊢;rw [D39];unfold P39;simp only [c, ye, yz, zb, zw, neI h, if_true]
theorem zt7 : D (k + 12) 30 [SA (enO o)] = some (.tup [.one .nils, .one (I6 (wl o))]) := by
 have c := t36 (k + 2) o ho;unfold enO at c ⊢;rw [D30];unfold P30;simp only [c, ye, yz, zb, zw, neI h, if_true]
end
theorem ztW (p : Pln) (hf : zex p = true) : 0 < (mk18 p).ranks.els.length ∧ (mk18 p).ranks.els.length ≤ 3 ∧ 0 < (mk18 p).divs.els.length := by
 obtain ⟨f1, f2, f3, f4, f5, f6⟩ := za6 hf;unfold mk18;simp only [yA, vC, ke];exact ⟨f1, f2, f3⟩
theorem bT5 {β : Type} (a b c d e v : DV) (K : List DS → Option β) : bT [some 5, none] (some (.tup [.agg [a, b, c, d, e], .one v])) K = K [.agg [a, b, c, d, e], .one v] := rfl
theorem zuf {β : Type} (a b c v w : DV) (K : List DS → Option β) : bT [some 3, none, none] (some (.tup [.agg [a, b, c], .one v, .one w])) K = K [.agg [a, b, c], .one v, .one w] := rfl
theorem bT31 {β : Type} (a b c v : DV) (K : List DS → Option β) : bT [some 3, none] (some (.tup [.agg [a, b, c], .one v])) K = K [.agg [a, b, c], .one v] := rfl
theorem bT21 {β : Type} (a b v : DV) (K : List DS → Option β) : bT [some 2, none] (some (.tup [.agg [a, b], .one v])) K = K [.agg [a, b], .one v] := rfl
theorem bT11 {β : Type} (v w : DV) (K : List DS → Option β) : bT [none, none] (some (.tup [.one v, .one w])) K = K [.one v, .one w] := rfl
structure Slip where
 kd : Nat
 a : Nat
def ztU (s : Slip) : List DV := [U8 (s.kd : Int), U8 (s.a : Int)]
def Slip.ok (s : Slip) : Prop := s.kd < 256 ∧ s.a < 256
theorem t7 (k : Nat) (p : Pln) (hp : p.ok) (s : Slip) (hs : s.ok) (r : Reg) (hr : zjk r) : D (k + 14) 7 [SA (zdn p), SA (ztU s), SA (y4 r)] = some (S1 (Bo true)) := by
 have kn := D27 (k + 13);have cf := t10 (k + 12) p hp;unfold zdn at cf ⊢;unfold ztU;have er : y4 r = [enL 1 enU r.stops, U64 r.cpls, U64 r.off] := rfl;rw [er, D7];unfold P7;simp only [kn, ye, xn, zb, zw, Bool.not_true, Bool.false_eq_true, if_false, cf];cases hf : zex p with
 | false => rfl
 | true =>
  simp only [Bool.not_true, Bool.false_eq_true, if_false, zL, yj, zb, zw];by_cases hl : (10 : Int) < (r.stops.els.length : Int)
  ·rw [if_pos (by simpa using hl)]
  rw [if_neg (by simpa using hl)]
  have cm := t11 (k + 6) p hp hf;have ho := zoZ p hf;have h0 := zij p hp hf;obtain ⟨s1, s2, s3⟩ := ztV p hf;obtain ⟨u1, u2, u3⟩ := ztW p hf;generalize mk18 p = o at cm ho h0 s1 s2 s3 u1 u2 u3;unfold zdn at cm;have cv := ztY (k + 1) o ho r;have cr := t24 (k + 3) o ho r;obtain ⟨o2, ho2, ch⟩ := t35 (k + 12) o ho u1 u2 u3 s1 s3 s2 s.kd s.a hs.2;have cc := t36 (k + 4) o2 ho2;rw [er] at cv cr;simp only [cm, zpY, zrE, cv, bT11, cr, ye, zb, zcj, zrs, za9, zqM, yj, wt, yz, zw];have fin : ∀ {x : Option DA},
    (b1 (some (S1 (I6 (wl o2)))) fun v => za (pBin .eql v (I6 0)) fun w => ifB w (some (S1 (.bool true))) x) = (if wl o2 = 0 then some (S1 (Bo true)) else x) := by
   intro x;simp only [ye, wt, zb, zw];by_cases h : wl o2 = 0 <;> simp [h]
  by_cases h2 : wl o2 = 0
  ·by_cases h1 : jn o r = 0
   ·have hv : vErr o r = 5 := by unfold vErr; rw [if_neg (by simp [h0]), if_neg (by simp [h1])]
    rw [h1, hv];simp [ch, zpY, zrE, cc, h2, ye]
   ·have hv : vErr o r = jn o r := by unfold vErr; rw [if_neg (by simp [h0]), if_pos h1]
    rw [hv];simp [h1, ch, zpY, zrE, cc, h2, ye]
  ·have c1 := zt9 (k + 1) o2 ho2 h2;have c2 := zt8 (k + 1) o2 ho2 h2 (I6 (-1));have c3 := ztY (k + 1) o2 ho2 r;have c4 := zt6 (k + 1) o2 ho2 h2;have c5 := zt5 (k + 1) o2 ho2 h2;have c6 := zt4 (k + 1) o2 ho2 h2 (I6 0) (I6 0);have c7 := zt7 (k + 1) o2 ho2 h2;rw [er] at c3;have hv2 : vErr o2 r = wl o2 := by unfold vErr; rw [if_pos h2]
   rw [hv2] at c3;generalize wl o2 = e at h2 cc c1 c2 c3 c4 c5 c6 c7;have hz : (e == 0) = false := by simpa using h2
   have tail : ∀ {β : Type} (a b : β), (if (e == 0) = true then a else b) = b := fun a b => by rw [hz]; rfl
   by_cases h1 : jn o r = 0
   ·have hv : vErr o r = 5 := by unfold vErr; rw [if_neg (by simp [h0]), if_neg (by simp [h1])]
    rw [h1, hv];simp only [ch, zpY, zrE, cc, ye, zb, wt, zw, tail, c1, c2, c3, c4, c5, c6, c7, bT5, bT11, zuf, bT21, bT31];simp [zcj, zrs, za9, zpS, wR, vS, zqM];rfl
   ·have hv : vErr o r = jn o r := by unfold vErr; rw [if_neg (by simp [h0]), if_pos h1]
    rw [hv];simp only [ch, zpY, zrE, cc, ye, zb, wt, zw, tail, c1, c2, c3, c4, c5, c6, c7, bT5, bT11, zuf, bT21, bT31];simp [h1, zcj, zrs, za9, zpS, wR, vS, zqM];rfl
end Go.Proofs.Tryz.Kn
end
