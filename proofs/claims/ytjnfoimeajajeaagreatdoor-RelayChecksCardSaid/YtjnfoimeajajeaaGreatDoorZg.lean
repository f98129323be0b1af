/-
  The law RelayChecks of the program answers true for every input, and each argument reads as before. No condition.
-/
import Derived.Test.YtjnfoimeajajeaaGreatDoorXf
import Derived.Test.YtjnfoimeajajeaaGreatDoorProg
import Derived.Test.YtjnfoimeajajeaaGreatDoorTie
import Derived.Test.YtjnfoimeajajeaaGreatDoorCards
import Derived.LaidMore
import Derived.Stop.Joined
import Derived.Carry
import Derived.Lib.SmallJoins
section
namespace Go.Proofs.Tryz.Kn
open Go Go.CE Go.PE
noncomputable abbrev prog : Program := Tryz.prog
def tabI : Nat → Bool := fun g => match g with | _ => false
abbrev redI : Red := noRed
def an4 : Nat → Option LA := fun i => match i with | 0 => some ⟨[.slot 8, .slot 7], [], [], [], [.slot 7], [], [], [], []⟩ | _ => none
def anI4 : Nat → List PA → Nat → Nat → Option LA := fun _ _ _ _ => none
noncomputable def F4_37 (O : Orc) (a0_0 : DV) (a1_0 : DV) (L37 : List DV) (_M38 : List OC) : Option PX :=
  bindD (pLen a0_0) fun v39 =>
 bindD (pBin .lss (nthD L37 0) v39) fun v40 =>
 ifB v40
 (ifB (nthD L37 1)
 (bindD (pIdx 3 a0_0 (nthD L37 0)) fun x41 =>
 bindD (pIdx 3 a1_0 (nthD L37 0)) fun x42 =>
 bindD (pBin .eql (atD x41 0) (atD x42 0)) fun v43 =>
 ifB v43
 (bindD (pBin .eql (atD x41 1) (atD x42 1)) fun v44 =>
 ifB v44
 (b1 (O 11 [S1 (atD x41 2), S1 (atD x42 2)]) fun v45 =>
 bindD (pBin .add (nthD L37 0) (I6 1)) fun v46 =>
 some (.normal, [v46, v45], []))
 (bindD (pBin .add (nthD L37 0) (I6 1)) fun v47 =>
 some (.normal, [v47, (.bool false)], [])))
 (bindD (pBin .add (nthD L37 0) (I6 1)) fun v48 =>
 some (.normal, [v48, (.bool false)], [])))
 (some (.exit 0, [(nthD L37 1)], [])))
 (some (.exit 0, [(nthD L37 1)], []))
noncomputable def F4_13 (O : Orc) (a0_0 : DV) (a1_0 : DV) (L13 : List DV) (_M14 : List OC) : Option PX :=
  bindD (pLen a0_0) fun v15 =>
 bindD (pBin .lss (nthD L13 0) v15) fun v16 =>
 ifB v16
 (ifB (nthD L13 1)
 (bindD (pIdx 3 a0_0 (nthD L13 0)) fun x17 =>
 bindD (pIdx 3 a1_0 (nthD L13 0)) fun x18 =>
 bindD (pBin .eql (atD x17 0) (atD x18 0)) fun v19 =>
 ifB v19
 (bindD (pBin .eql (atD x17 1) (atD x18 1)) fun v20 =>
 ifB v20
 (b1 (O 11 [S1 (atD x17 2), S1 (atD x18 2)]) fun v21 =>
 bindD (pBin .add (nthD L13 0) (I6 1)) fun v22 =>
 some (.normal, [v22, v21], []))
 (bindD (pBin .add (nthD L13 0) (I6 1)) fun v23 =>
 some (.normal, [v23, (.bool false)], [])))
 (bindD (pBin .add (nthD L13 0) (I6 1)) fun v24 =>
 some (.normal, [v24, (.bool false)], [])))
 (some (.exit 0, [(nthD L13 1)], [])))
 (some (.exit 0, [(nthD L13 1)], []))
noncomputable def P4 (O : Orc) (a0_0 a0_1 a1_0 a1_1 a2 : DV) : Option DA :=
  b1 (O 5 []) fun v0 =>
 bindD (pNot v0) fun v1 =>
 ifB v1
 (b1 (O 5 []) fun v2 =>
 some (S1 v2))
 (b1 (O 6 [SA ([a0_0, a0_1])]) fun v3 =>
 bindD (pNot v3) fun v4 =>
 ifB v4
 (b1 (O 5 []) fun v5 =>
 some (S1 v5))
 (b1 (O 6 [SA ([a1_0, a1_1])]) fun v6 =>
 bindD (pNot v6) fun v7 =>
 ifB v7
 (b1 (O 5 []) fun v8 =>
 some (S1 v8))
 (b1 (O 11 [S1 a0_1, S1 a1_1]) fun v9 =>
 ifB v9
 (bindD (pLen a0_0) fun v10 =>
 bindD (pLen a1_0) fun v11 =>
 bindD (pBin .eql v10 v11) fun v12 =>
 loopR (ploop (F4_13 O a0_0 a1_0) [(I6 0), v12] [])
 (fun i27 L25 _M26 => bif Nat.beq i27 0 then
 (bindD (mkN 40 (I6 50001) (I6 50001)) fun n28 =>
 b1 (O 12 [SA ([a0_0, a0_1]), S1 a2]) fun v29 =>
 b1 (O 8 [SA ([a0_0, a0_1]), S1 a2]) fun v30 =>
 bindD (pBin .eql v29 v30) fun v31 =>
 ifB v31
 (b1 (O 13 [SA ([a0_0, a0_1]), SA ([a1_0, a1_1])]) fun v32 =>
 bindD (eqD 0 v32 (nthD L25 0)) fun q33 =>
 ifB (.bool q33)
 (b1 (O 13 [SA ([a0_0, a0_1]), SA ([a0_0, a0_1])]) fun v34 =>
 ifB v34
 (b1s (O 12 [SA ([(.lst 3 (List.replicate n28 [(I6 0), (I6 0), .nils])), .nils]), S1 (I6 1)]) fun v35 =>
 bindD (pBin .eql v35 (I6 4)) fun v36 =>
 some (S1 v36))
 (some (S1 (.bool false))))
 (some (S1 (.bool false))))
 (some (S1 (.bool false))))
 else (none))
 (fun _L25 _M26 => none))
 (loopR (ploop (F4_37 O a0_0 a1_0) [(I6 0), (.bool false)] [])
 (fun i51 L49 _M50 => bif Nat.beq i51 0 then
 (bindD (mkN 40 (I6 50001) (I6 50001)) fun n52 =>
 b1 (O 12 [SA ([a0_0, a0_1]), S1 a2]) fun v53 =>
 b1 (O 8 [SA ([a0_0, a0_1]), S1 a2]) fun v54 =>
 bindD (pBin .eql v53 v54) fun v55 =>
 ifB v55
 (b1 (O 13 [SA ([a0_0, a0_1]), SA ([a1_0, a1_1])]) fun v56 =>
 bindD (eqD 0 v56 (nthD L49 0)) fun q57 =>
 ifB (.bool q57)
 (b1 (O 13 [SA ([a0_0, a0_1]), SA ([a0_0, a0_1])]) fun v58 =>
 ifB v58
 (b1s (O 12 [SA ([(.lst 3 (List.replicate n52 [(I6 0), (I6 0), .nils])), .nils]), S1 (I6 1)]) fun v59 =>
 bindD (pBin .eql v59 (I6 4)) fun v60 =>
 some (S1 v60))
 (some (S1 (.bool false))))
 (some (S1 (.bool false))))
 (some (S1 (.bool false))))
 else (none))
 (fun _L49 _M50 => none)))))
theorem p4 (O : Orc) (a0_0 a0_1 a1_0 a1_1 a2 : DV) : pFun prog O tabI (inl prog O tabI anI4 redI 3) an4 4 [SA ([a0_0, a0_1]), SA ([a1_0, a1_1]), S1 a2] = P4 O a0_0 a0_1 a1_0 a1_1 a2 := by kernel_rfl
def an6 : Nat → Option LA := fun i => match i with | 0 => some ⟨[.slot 3], [], [], [], [], [], [.slot 2], [], []⟩ | _ => none
def anI6 : Nat → List PA → Nat → Nat → Option LA := fun _ _ _ _ => none
noncomputable def F6_0 (a0_0 : DV) (L0 : List DV) (_M1 : List OC) : Option PX :=
  bindD (pLen a0_0) fun v2 =>
 bindD (pBin .lss (nthD L0 0) v2) fun v3 =>
 ifB v3
 (bindD (pIdx 3 a0_0 (nthD L0 0)) fun x4 =>
 bindD (pLen (atD x4 2)) fun v5 =>
 bindD (pBin .gtr v5 (I6 20)) fun v6 =>
 ifB v6
 (some (.ret, [(.bool false)], []))
 (bindD (pBin .add (nthD L0 0) (I6 1)) fun v7 =>
 some (.normal, [v7], [])))
 (some (.exit 0, [], []))
noncomputable def P6 (_O : Orc) (a0_0 a0_1 : DV) : Option DA :=
  loopR (ploop (F6_0 a0_0) [(I6 0)] [])
 (fun i10 _L8 _M9 => bif Nat.beq i10 0 then
 (bindD (pLen a0_0) fun v11 =>
 bindD (pBin .leq v11 (I6 20)) fun v12 =>
 ifB v12
 (bindD (pLen a0_1) fun v13 =>
 bindD (pBin .leq v13 (I6 20)) fun v14 =>
 some (S1 v14))
 (some (S1 (.bool false))))
 else (none))
 (fun L8 _M9 => some (S1 (nthD L8 0)))
theorem p6 (O : Orc) (a0_0 a0_1 : DV) : pFun prog O tabI (inl prog O tabI anI6 redI 3) an6 6 [SA ([a0_0, a0_1])] = P6 O a0_0 a0_1 := by kernel_rfl
def an7 : Nat → Option LA := fun i => match i with | 0 => some ⟨[.slot 27], [], [], [(1, 1)], [], [], [], [], []⟩ | 1 => some ⟨[.slot 85], [(.slot 10, 1)], [], [], [], [(.slot 10, 1)], [], [], []⟩ | _ => none
def anI7 : Nat → List PA → Nat → Nat → Option LA := fun _ _ _ _ => none
noncomputable def F7_43 (v42 : DV) (a0_1 : DV) (M40 : List OC) (L43 : List DV) (M44 : List OC) : Option PX :=
  bindD (pBin .lss (nthD L43 0) v42) fun v45 =>
 ifB v45
 (bindD (pIdx 1 a0_1 (nthD L43 0)) fun x46 =>
 bindD (pIdxO (nthM M40 0) (atD x46 0)) fun n47 =>
 bindD (nthO (nthM M40 0) n47) fun x48 =>
 gd (fits 1 (lenO (nthM M44 0) + ([[(atD x48 0)]] : List (List DV)).length)) (
 bindD (pBin .add (nthD L43 0) (I6 1)) fun v49 =>
 some (.normal, [v49], [(some (elemsO (nthM M44 0) ++ [[(atD x48 0)]]))])))
 (some (.exit 3, [], [(nthM M44 0)]))
noncomputable def F7_6 (O : Orc) (v5 : DV) (a0_0 : DV) (a1 : DV) (L6 : List DV) (M7 : List OC) : Option PX :=
  bindD (pBin .lss (nthD L6 0) v5) fun v8 =>
 ifB v8
 (bindD (pIdx 3 a0_0 (nthD L6 0)) fun x9 =>
 bindD (pBin .eql (atD x9 0) (I6 1)) fun v10 =>
 ifB v10
 (bindD (pIdx 1 a1 (atD x9 1)) fun x11 =>
 bindD (pIdxO (nthM M7 0) (nthD L6 0)) fun n12 =>
 bindD (setO 1 (nthM M7 0) n12 0 [(atD x11 0)]) fun w13 =>
 bindD (pBin .add (nthD L6 0) (I6 1)) fun v14 =>
 some (.normal, [v14], [w13]))
 (bindD (pBin .eql (atD x9 0) (I6 2)) fun v15 =>
 ifB v15
 (bindD (pIdx 1 (atD x9 2) (I6 0)) fun x16 =>
 bindD (pIdxO (nthM M7 0) (atD x16 0)) fun n17 =>
 bindD (nthO (nthM M7 0) n17) fun x18 =>
 bindD (pNot (atD x18 0)) fun v19 =>
 bindD (pIdxO (nthM M7 0) (nthD L6 0)) fun n20 =>
 bindD (setO 1 (nthM M7 0) n20 0 [v19]) fun w21 =>
 bindD (pBin .add (nthD L6 0) (I6 1)) fun v22 =>
 some (.normal, [v22], [w21]))
 (bindD (pBin .eql (atD x9 0) (I6 3)) fun v23 =>
 ifB v23
 (b1s (O 20 [S1 (atD x9 2), .s (.one (.fn 21 [[(mkL 1 (nthM M7 0))]]))]) fun v24 =>
 bindD (pNot v24) fun v25 =>
 bindD (pIdxO (nthM M7 0) (nthD L6 0)) fun n26 =>
 bindD (setO 1 (nthM M7 0) n26 0 [v25]) fun w27 =>
 bindD (pBin .add (nthD L6 0) (I6 1)) fun v28 =>
 some (.normal, [v28], [w27]))
 (bindD (pBin .eql (atD x9 0) (I6 4)) fun v29 =>
 ifB v29
 (b1s (O 20 [S1 (atD x9 2), .s (.one (.fn 22 [[(mkL 1 (nthM M7 0))]]))]) fun v30 =>
 bindD (pIdxO (nthM M7 0) (nthD L6 0)) fun n31 =>
 bindD (setO 1 (nthM M7 0) n31 0 [v30]) fun w32 =>
 bindD (pBin .add (nthD L6 0) (I6 1)) fun v33 =>
 some (.normal, [v33], [w32]))
 (bindD (pBin .eql (atD x9 0) (I6 6)) fun v34 =>
 ifB v34
 (bindD (pIdxO (nthM M7 0) (nthD L6 0)) fun n35 =>
 bindD (setO 1 (nthM M7 0) n35 0 [(.bool true)]) fun w36 =>
 bindD (pBin .add (nthD L6 0) (I6 1)) fun v37 =>
 some (.normal, [v37], [w36]))
 (bindD (pBin .add (nthD L6 0) (I6 1)) fun v38 =>
 some (.normal, [v38], [(nthM M7 0)])))))))
 (some (.exit 0, [], [(nthM M7 0)]))
noncomputable def P7 (O : Orc) (a0_0 a0_1 a1 : DV) : Option DA :=
  bindD (pLen a1) fun v0 =>
 b1 (O 12 [SA ([a0_0, a0_1]), S1 v0]) fun v1 =>
 bindD (pBin .neq v1 (I6 0)) fun v2 =>
 ifB v2
 (some (.tup [(.one .nils), (.one v1)]))
 (bindD (pLen a0_0) fun v3 =>
 bindD (mkN 1 v3 v3) fun n4 =>
 bindD (pLen a0_0) fun v5 =>
 loopR (ploop (F7_6 O v5 a0_0 a1) [(I6 0)] [(some (List.replicate n4 [(.bool false)]))])
 (fun i41 _L39 M40 => bif Nat.beq i41 0 then
 (bindD (pLen a0_1) fun v42 =>
 loopR (ploop (F7_43 v42 a0_1 M40) [(I6 0)] [none])
 (fun i52 _L50 M51 => bif Nat.beq i52 3 then
 (some (.tup [(.one (mkL 1 (nthM M51 0))), (.one (I6 0))]))
 else (none))
 (fun _L50 _M51 => none))
 else (none))
 (fun _L39 _M40 => none))
theorem p7 (O : Orc) (a0_0 a0_1 a1 : DV) : pFun prog O tabI (inl prog O tabI anI7 redI 3) an7 7 [SA ([a0_0, a0_1]), S1 a1] = P7 O a0_0 a0_1 a1 := by kernel_rfl
def an8 : Nat → Option LA := fun i => match i with | 0 => some ⟨[.slot 5], [], [], [], [], [], [.slot 4], [], []⟩ | 1 => some ⟨[.slot 7], [], [], [], [], [], [.slot 4], [], []⟩ | _ => none
def anI8 : Nat → List PA → Nat → Nat → Option LA := fun _ _ _ _ => none
noncomputable def F8_12 (a0_1 : DV) (a0_0 : DV) (L12 : List DV) (_M13 : List OC) : Option PX :=
  bindD (pLen a0_1) fun v14 =>
 bindD (pBin .lss (nthD L12 0) v14) fun v15 =>
 ifB v15
 (bindD (pIdx 1 a0_1 (nthD L12 0)) fun x16 =>
 bindD (pBin .lss (atD x16 0) (I6 0)) fun v17 =>
 ifB v17
 (some (.ret, [(I6 10)], []))
 (bindD (pIdx 1 a0_1 (nthD L12 0)) fun x18 =>
 bindD (pLen a0_0) fun v19 =>
 bindD (pBin .geq (atD x18 0) v19) fun v20 =>
 ifB v20
 (some (.ret, [(I6 10)], []))
 (bindD (pBin .add (nthD L12 0) (I6 1)) fun v21 =>
 some (.normal, [v21], []))))
 (some (.exit 2, [], []))
noncomputable def F8_1 (O : Orc) (a0_0 : DV) (a1 : DV) (L1 : List DV) (_M2 : List OC) : Option PX :=
  bindD (pLen a0_0) fun v3 =>
 bindD (pBin .lss (nthD L1 0) v3) fun v4 =>
 ifB v4
 (bindD (pIdx 3 a0_0 (nthD L1 0)) fun x5 =>
 b1 (O 23 [SA ([(atD x5 0), (atD x5 1), (atD x5 2)]), S1 (nthD L1 0), S1 a1]) fun v6 =>
 bindD (pBin .neq v6 (I6 0)) fun v7 =>
 ifB v7
 (some (.ret, [v6], []))
 (bindD (pBin .add (nthD L1 0) (I6 1)) fun v8 =>
 some (.normal, [v8], [])))
 (some (.exit 0, [], []))
noncomputable def P8 (O : Orc) (a0_0 a0_1 a1 : DV) : Option DA :=
  bindD (pBin .lss a1 (I6 0)) fun v0 =>
 ifB v0
 (some (S1 (I6 3)))
 (loopR (ploop (F8_1 O a0_0 a1) [(I6 0)] [])
 (fun i11 _L9 _M10 => bif Nat.beq i11 0 then
 (loopR (ploop (F8_12 a0_1 a0_0) [(I6 0)] [])
 (fun i24 _L22 _M23 => bif Nat.beq i24 2 then
 (some (S1 (I6 0)))
 else (none))
 (fun L22 _M23 => some (S1 (nthD L22 0))))
 else (none))
 (fun L9 _M10 => some (S1 (nthD L9 0))))
theorem p8 (O : Orc) (a0_0 a0_1 a1 : DV) : pFun prog O tabI (inl prog O tabI anI8 redI 3) an8 8 [SA ([a0_0, a0_1]), S1 a1] = P8 O a0_0 a0_1 a1 := by kernel_rfl
def an11 : Nat → Option LA := fun i => match i with | 0 => some ⟨[.slot 5], [], [], [], [], [], [.slot 4], [], []⟩ | _ => none
def anI11 : Nat → List PA → Nat → Nat → Option LA := fun _ _ _ _ => none
noncomputable def F11_3 (a0 : DV) (a1 : DV) (L3 : List DV) (_M4 : List OC) : Option PX :=
  bindD (pLen a0) fun v5 =>
 bindD (pBin .lss (nthD L3 0) v5) fun v6 =>
 ifB v6
 (bindD (pIdx 1 a0 (nthD L3 0)) fun x7 =>
 bindD (pIdx 1 a1 (nthD L3 0)) fun x8 =>
 bindD (pBin .neq (atD x7 0) (atD x8 0)) fun v9 =>
 ifB v9
 (some (.ret, [(.bool false)], []))
 (bindD (pBin .add (nthD L3 0) (I6 1)) fun v10 =>
 some (.normal, [v10], [])))
 (some (.exit 0, [], []))
noncomputable def P11 (_O : Orc) (a0 a1 : DV) : Option DA :=
  bindD (pLen a0) fun v0 =>
 bindD (pLen a1) fun v1 =>
 bindD (pBin .neq v0 v1) fun v2 =>
 ifB v2
 (some (S1 (.bool false)))
 (loopR (ploop (F11_3 a0 a1) [(I6 0)] [])
 (fun i13 _L11 _M12 => bif Nat.beq i13 0 then
 (some (S1 (.bool true)))
 else (none))
 (fun L11 _M12 => some (S1 (nthD L11 0))))
theorem p11 (O : Orc) (a0 a1 : DV) : pFun prog O tabI (inl prog O tabI anI11 redI 3) an11 11 [S1 a0, S1 a1] = P11 O a0 a1 := by kernel_rfl
def an12 : Nat → Option LA := fun i => match i with | 0 => some ⟨[.slot 17], [], [], [], [], [], [.slot 4], [], []⟩ | _ => none
def anI12 : Nat → List PA → Nat → Nat → Option LA := fun _ _ _ _ => none
noncomputable def F12_4 (O : Orc) (v3 : DV) (a0_0 : DV) (a1 : DV) (L4 : List DV) (_M5 : List OC) : Option PX :=
  bindD (pBin .lss (nthD L4 0) v3) fun v6 =>
 ifB v6
 (bindD (pIdx 3 a0_0 (nthD L4 0)) fun x7 =>
 b1 (O 24 [SA ([(atD x7 0), (atD x7 1), (atD x7 2)]), S1 (nthD L4 0), S1 a1]) fun v8 =>
 bindD (pBin .neq v8 (I6 0)) fun v9 =>
 ifB v9
 (some (.ret, [v8], []))
 (bindD (pBin .add (nthD L4 0) (I6 1)) fun v10 =>
 some (.normal, [v10], [])))
 (some (.exit 0, [], []))
noncomputable def P12 (O : Orc) (a0_0 a0_1 a1 : DV) : Option DA :=
  bindD (pBin .lss a1 (I6 0)) fun v0 =>
 ifB v0
 (some (S1 (I6 3)))
 (bindD (pLen a0_0) fun v1 =>
 bindD (pBin .gtr v1 (I6 50000)) fun v2 =>
 ifB v2
 (some (S1 (I6 4)))
 (bindD (pLen a0_0) fun v3 =>
 loopR (ploop (F12_4 O v3 a0_0 a1) [(I6 0)] [])
 (fun i13 _L11 _M12 => bif Nat.beq i13 0 then
 (b1s (O 20 [S1 a0_1, S1 (.fn 25 [[a0_0, a0_1]])]) fun v14 =>
 ifB v14
 (some (S1 (I6 10)))
 (some (S1 (I6 0))))
 else (none))
 (fun L11 _M12 => some (S1 (nthD L11 0)))))
theorem p12 (O : Orc) (a0_0 a0_1 a1 : DV) : pFun prog O tabI (inl prog O tabI anI12 redI 3) an12 12 [SA ([a0_0, a0_1]), S1 a1] = P12 O a0_0 a0_1 a1 := by kernel_rfl
def an13 : Nat → Option LA := fun _ => none
def anI13 : Nat → List PA → Nat → Nat → Option LA := fun _ _ _ _ => none
noncomputable def P13 (O : Orc) (a0_0 a0_1 a1_0 a1_1 : DV) : Option DA :=
  b1 (O 28 [S1 a0_0, S1 a1_0, S1 (.fn 26 [])]) fun v0 =>
 ifB v0
 (b1 (O 27 [S1 a0_1, S1 a1_1]) fun v1 =>
 some (S1 v1))
 (some (S1 (.bool false)))
theorem p13 (O : Orc) (a0_0 a0_1 a1_0 a1_1 : DV) : pFun prog O tabI (inl prog O tabI anI13 redI 3) an13 13 [SA ([a0_0, a0_1]), SA ([a1_0, a1_1])] = P13 O a0_0 a0_1 a1_0 a1_1 := by kernel_rfl
def an20 : Nat → Option LA := fun _ => none
def anI20 : Nat → List PA → Nat → Nat → Option LA := fun _ _ _ _ => none
noncomputable def P20 (O : Orc) (a0 a1 : DV) : Option DA :=
  b1 (O 45 [S1 a0, S1 a1]) fun v0 =>
 bindD (pBin .geq v0 (I6 0)) fun v1 =>
 some (S1 v1)
theorem p20 (O : Orc) (a0 a1 : DV) : pFun prog O tabI (inl prog O tabI anI20 redI 3) an20 20 [S1 a0, S1 a1] = P20 O a0 a1 := by kernel_rfl
def an23 : Nat → Option LA := fun i => match i with | 0 => some ⟨[.slot 8], [], [], [], [], [], [.slot 6], [], []⟩ | _ => none
def anI23 : Nat → List PA → Nat → Nat → Option LA := fun _ _ _ _ => none
noncomputable def F23_239 (a0_2 : DV) (a1 : DV) (L239 : List DV) (_M240 : List OC) : Option PX :=
  bindD (pLen a0_2) fun v241 =>
 bindD (pBin .lss (nthD L239 0) v241) fun v242 =>
 ifB v242
 (bindD (pIdx 1 a0_2 (nthD L239 0)) fun x243 =>
 bindD (pBin .lss (atD x243 0) (I6 0)) fun v244 =>
 ifB v244
 (some (.ret, [(I6 6)], []))
 (bindD (pIdx 1 a0_2 (nthD L239 0)) fun x245 =>
 bindD (pBin .geq (atD x245 0) a1) fun v246 =>
 ifB v246
 (some (.ret, [(I6 6)], []))
 (bindD (pBin .add (nthD L239 0) (I6 1)) fun v247 =>
 some (.normal, [v247], []))))
 (some (.exit 2, [], []))
noncomputable def F23_226 (a0_2 : DV) (a1 : DV) (L226 : List DV) (_M227 : List OC) : Option PX :=
  bindD (pLen a0_2) fun v228 =>
 bindD (pBin .lss (nthD L226 0) v228) fun v229 =>
 ifB v229
 (bindD (pIdx 1 a0_2 (nthD L226 0)) fun x230 =>
 bindD (pBin .lss (atD x230 0) (I6 0)) fun v231 =>
 ifB v231
 (some (.ret, [(I6 6)], []))
 (bindD (pIdx 1 a0_2 (nthD L226 0)) fun x232 =>
 bindD (pBin .geq (atD x232 0) a1) fun v233 =>
 ifB v233
 (some (.ret, [(I6 6)], []))
 (bindD (pBin .add (nthD L226 0) (I6 1)) fun v234 =>
 some (.normal, [v234], []))))
 (some (.exit 2, [], []))
noncomputable def F23_211 (a0_2 : DV) (a1 : DV) (L211 : List DV) (_M212 : List OC) : Option PX :=
  bindD (pLen a0_2) fun v213 =>
 bindD (pBin .lss (nthD L211 0) v213) fun v214 =>
 ifB v214
 (bindD (pIdx 1 a0_2 (nthD L211 0)) fun x215 =>
 bindD (pBin .lss (atD x215 0) (I6 0)) fun v216 =>
 ifB v216
 (some (.ret, [(I6 6)], []))
 (bindD (pIdx 1 a0_2 (nthD L211 0)) fun x217 =>
 bindD (pBin .geq (atD x217 0) a1) fun v218 =>
 ifB v218
 (some (.ret, [(I6 6)], []))
 (bindD (pBin .add (nthD L211 0) (I6 1)) fun v219 =>
 some (.normal, [v219], []))))
 (some (.exit 2, [], []))
noncomputable def F23_198 (a0_2 : DV) (a1 : DV) (L198 : List DV) (_M199 : List OC) : Option PX :=
  bindD (pLen a0_2) fun v200 =>
 bindD (pBin .lss (nthD L198 0) v200) fun v201 =>
 ifB v201
 (bindD (pIdx 1 a0_2 (nthD L198 0)) fun x202 =>
 bindD (pBin .lss (atD x202 0) (I6 0)) fun v203 =>
 ifB v203
 (some (.ret, [(I6 6)], []))
 (bindD (pIdx 1 a0_2 (nthD L198 0)) fun x204 =>
 bindD (pBin .geq (atD x204 0) a1) fun v205 =>
 ifB v205
 (some (.ret, [(I6 6)], []))
 (bindD (pBin .add (nthD L198 0) (I6 1)) fun v206 =>
 some (.normal, [v206], []))))
 (some (.exit 2, [], []))
noncomputable def F23_178 (a0_2 : DV) (a1 : DV) (L178 : List DV) (_M179 : List OC) : Option PX :=
  bindD (pLen a0_2) fun v180 =>
 bindD (pBin .lss (nthD L178 0) v180) fun v181 =>
 ifB v181
 (bindD (pIdx 1 a0_2 (nthD L178 0)) fun x182 =>
 bindD (pBin .lss (atD x182 0) (I6 0)) fun v183 =>
 ifB v183
 (some (.ret, [(I6 6)], []))
 (bindD (pIdx 1 a0_2 (nthD L178 0)) fun x184 =>
 bindD (pBin .geq (atD x184 0) a1) fun v185 =>
 ifB v185
 (some (.ret, [(I6 6)], []))
 (bindD (pBin .add (nthD L178 0) (I6 1)) fun v186 =>
 some (.normal, [v186], []))))
 (some (.exit 2, [], []))
noncomputable def F23_165 (a0_2 : DV) (a1 : DV) (L165 : List DV) (_M166 : List OC) : Option PX :=
  bindD (pLen a0_2) fun v167 =>
 bindD (pBin .lss (nthD L165 0) v167) fun v168 =>
 ifB v168
 (bindD (pIdx 1 a0_2 (nthD L165 0)) fun x169 =>
 bindD (pBin .lss (atD x169 0) (I6 0)) fun v170 =>
 ifB v170
 (some (.ret, [(I6 6)], []))
 (bindD (pIdx 1 a0_2 (nthD L165 0)) fun x171 =>
 bindD (pBin .geq (atD x171 0) a1) fun v172 =>
 ifB v172
 (some (.ret, [(I6 6)], []))
 (bindD (pBin .add (nthD L165 0) (I6 1)) fun v173 =>
 some (.normal, [v173], []))))
 (some (.exit 2, [], []))
noncomputable def F23_150 (a0_2 : DV) (a1 : DV) (L150 : List DV) (_M151 : List OC) : Option PX :=
  bindD (pLen a0_2) fun v152 =>
 bindD (pBin .lss (nthD L150 0) v152) fun v153 =>
 ifB v153
 (bindD (pIdx 1 a0_2 (nthD L150 0)) fun x154 =>
 bindD (pBin .lss (atD x154 0) (I6 0)) fun v155 =>
 ifB v155
 (some (.ret, [(I6 6)], []))
 (bindD (pIdx 1 a0_2 (nthD L150 0)) fun x156 =>
 bindD (pBin .geq (atD x156 0) a1) fun v157 =>
 ifB v157
 (some (.ret, [(I6 6)], []))
 (bindD (pBin .add (nthD L150 0) (I6 1)) fun v158 =>
 some (.normal, [v158], []))))
 (some (.exit 2, [], []))
noncomputable def F23_137 (a0_2 : DV) (a1 : DV) (L137 : List DV) (_M138 : List OC) : Option PX :=
  bindD (pLen a0_2) fun v139 =>
 bindD (pBin .lss (nthD L137 0) v139) fun v140 =>
 ifB v140
 (bindD (pIdx 1 a0_2 (nthD L137 0)) fun x141 =>
 bindD (pBin .lss (atD x141 0) (I6 0)) fun v142 =>
 ifB v142
 (some (.ret, [(I6 6)], []))
 (bindD (pIdx 1 a0_2 (nthD L137 0)) fun x143 =>
 bindD (pBin .geq (atD x143 0) a1) fun v144 =>
 ifB v144
 (some (.ret, [(I6 6)], []))
 (bindD (pBin .add (nthD L137 0) (I6 1)) fun v145 =>
 some (.normal, [v145], []))))
 (some (.exit 2, [], []))
noncomputable def F23_116 (a0_2 : DV) (a1 : DV) (L116 : List DV) (_M117 : List OC) : Option PX :=
  bindD (pLen a0_2) fun v118 =>
 bindD (pBin .lss (nthD L116 0) v118) fun v119 =>
 ifB v119
 (bindD (pIdx 1 a0_2 (nthD L116 0)) fun x120 =>
 bindD (pBin .lss (atD x120 0) (I6 0)) fun v121 =>
 ifB v121
 (some (.ret, [(I6 6)], []))
 (bindD (pIdx 1 a0_2 (nthD L116 0)) fun x122 =>
 bindD (pBin .geq (atD x122 0) a1) fun v123 =>
 ifB v123
 (some (.ret, [(I6 6)], []))
 (bindD (pBin .add (nthD L116 0) (I6 1)) fun v124 =>
 some (.normal, [v124], []))))
 (some (.exit 2, [], []))
noncomputable def F23_103 (a0_2 : DV) (a1 : DV) (L103 : List DV) (_M104 : List OC) : Option PX :=
  bindD (pLen a0_2) fun v105 =>
 bindD (pBin .lss (nthD L103 0) v105) fun v106 =>
 ifB v106
 (bindD (pIdx 1 a0_2 (nthD L103 0)) fun x107 =>
 bindD (pBin .lss (atD x107 0) (I6 0)) fun v108 =>
 ifB v108
 (some (.ret, [(I6 6)], []))
 (bindD (pIdx 1 a0_2 (nthD L103 0)) fun x109 =>
 bindD (pBin .geq (atD x109 0) a1) fun v110 =>
 ifB v110
 (some (.ret, [(I6 6)], []))
 (bindD (pBin .add (nthD L103 0) (I6 1)) fun v111 =>
 some (.normal, [v111], []))))
 (some (.exit 2, [], []))
noncomputable def F23_88 (a0_2 : DV) (a1 : DV) (L88 : List DV) (_M89 : List OC) : Option PX :=
  bindD (pLen a0_2) fun v90 =>
 bindD (pBin .lss (nthD L88 0) v90) fun v91 =>
 ifB v91
 (bindD (pIdx 1 a0_2 (nthD L88 0)) fun x92 =>
 bindD (pBin .lss (atD x92 0) (I6 0)) fun v93 =>
 ifB v93
 (some (.ret, [(I6 6)], []))
 (bindD (pIdx 1 a0_2 (nthD L88 0)) fun x94 =>
 bindD (pBin .geq (atD x94 0) a1) fun v95 =>
 ifB v95
 (some (.ret, [(I6 6)], []))
 (bindD (pBin .add (nthD L88 0) (I6 1)) fun v96 =>
 some (.normal, [v96], []))))
 (some (.exit 2, [], []))
noncomputable def F23_75 (a0_2 : DV) (a1 : DV) (L75 : List DV) (_M76 : List OC) : Option PX :=
  bindD (pLen a0_2) fun v77 =>
 bindD (pBin .lss (nthD L75 0) v77) fun v78 =>
 ifB v78
 (bindD (pIdx 1 a0_2 (nthD L75 0)) fun x79 =>
 bindD (pBin .lss (atD x79 0) (I6 0)) fun v80 =>
 ifB v80
 (some (.ret, [(I6 6)], []))
 (bindD (pIdx 1 a0_2 (nthD L75 0)) fun x81 =>
 bindD (pBin .geq (atD x81 0) a1) fun v82 =>
 ifB v82
 (some (.ret, [(I6 6)], []))
 (bindD (pBin .add (nthD L75 0) (I6 1)) fun v83 =>
 some (.normal, [v83], []))))
 (some (.exit 2, [], []))
noncomputable def F23_54 (a0_2 : DV) (a1 : DV) (L54 : List DV) (_M55 : List OC) : Option PX :=
  bindD (pLen a0_2) fun v56 =>
 bindD (pBin .lss (nthD L54 0) v56) fun v57 =>
 ifB v57
 (bindD (pIdx 1 a0_2 (nthD L54 0)) fun x58 =>
 bindD (pBin .lss (atD x58 0) (I6 0)) fun v59 =>
 ifB v59
 (some (.ret, [(I6 6)], []))
 (bindD (pIdx 1 a0_2 (nthD L54 0)) fun x60 =>
 bindD (pBin .geq (atD x60 0) a1) fun v61 =>
 ifB v61
 (some (.ret, [(I6 6)], []))
 (bindD (pBin .add (nthD L54 0) (I6 1)) fun v62 =>
 some (.normal, [v62], []))))
 (some (.exit 2, [], []))
noncomputable def F23_41 (a0_2 : DV) (a1 : DV) (L41 : List DV) (_M42 : List OC) : Option PX :=
  bindD (pLen a0_2) fun v43 =>
 bindD (pBin .lss (nthD L41 0) v43) fun v44 =>
 ifB v44
 (bindD (pIdx 1 a0_2 (nthD L41 0)) fun x45 =>
 bindD (pBin .lss (atD x45 0) (I6 0)) fun v46 =>
 ifB v46
 (some (.ret, [(I6 6)], []))
 (bindD (pIdx 1 a0_2 (nthD L41 0)) fun x47 =>
 bindD (pBin .geq (atD x47 0) a1) fun v48 =>
 ifB v48
 (some (.ret, [(I6 6)], []))
 (bindD (pBin .add (nthD L41 0) (I6 1)) fun v49 =>
 some (.normal, [v49], []))))
 (some (.exit 2, [], []))
noncomputable def F23_26 (a0_2 : DV) (a1 : DV) (L26 : List DV) (_M27 : List OC) : Option PX :=
  bindD (pLen a0_2) fun v28 =>
 bindD (pBin .lss (nthD L26 0) v28) fun v29 =>
 ifB v29
 (bindD (pIdx 1 a0_2 (nthD L26 0)) fun x30 =>
 bindD (pBin .lss (atD x30 0) (I6 0)) fun v31 =>
 ifB v31
 (some (.ret, [(I6 6)], []))
 (bindD (pIdx 1 a0_2 (nthD L26 0)) fun x32 =>
 bindD (pBin .geq (atD x32 0) a1) fun v33 =>
 ifB v33
 (some (.ret, [(I6 6)], []))
 (bindD (pBin .add (nthD L26 0) (I6 1)) fun v34 =>
 some (.normal, [v34], []))))
 (some (.exit 2, [], []))
noncomputable def F23_13 (a0_2 : DV) (a1 : DV) (L13 : List DV) (_M14 : List OC) : Option PX :=
  bindD (pLen a0_2) fun v15 =>
 bindD (pBin .lss (nthD L13 0) v15) fun v16 =>
 ifB v16
 (bindD (pIdx 1 a0_2 (nthD L13 0)) fun x17 =>
 bindD (pBin .lss (atD x17 0) (I6 0)) fun v18 =>
 ifB v18
 (some (.ret, [(I6 6)], []))
 (bindD (pIdx 1 a0_2 (nthD L13 0)) fun x19 =>
 bindD (pBin .geq (atD x19 0) a1) fun v20 =>
 ifB v20
 (some (.ret, [(I6 6)], []))
 (bindD (pBin .add (nthD L13 0) (I6 1)) fun v21 =>
 some (.normal, [v21], []))))
 (some (.exit 2, [], []))
noncomputable def P23 (_O : Orc) (a0_0 a0_1 a0_2 a1 a2 : DV) : Option DA :=
  bindD (pLen a0_2) fun v0 =>
 bindD (pBin .eql v0 (I6 0)) fun v1 =>
 bindD (pBin .eql a0_0 (I6 2)) fun v2 =>
 ifB v2
 (bindD (pLen a0_2) fun v3 =>
 bindD (pBin .eql v3 (I6 1)) fun v4 =>
 bindD (pBin .lss a0_0 (I6 1)) fun v5 =>
 ifB v5
 (some (S1 (I6 12)))
 (bindD (pBin .gtr a0_0 (I6 6)) fun v6 =>
 ifB v6
 (some (S1 (I6 12)))
 (bindD (pBin .eql a0_0 (I6 1)) fun v7 =>
 ifB v7
 (bindD (pBin .lss a0_1 (I6 0)) fun v8 =>
 ifB v8
 (some (S1 (I6 3)))
 (bindD (pBin .geq a0_1 a2) fun v9 =>
 ifB v9
 (some (S1 (I6 3)))
 (bindD (pBin .neq a0_0 (I6 1)) fun v10 =>
 ifB v10
 (bindD (pBin .neq a0_1 (I6 0)) fun v11 =>
 ifB v11
 (some (S1 (I6 7)))
 (bindD (pNot v4) fun v12 =>
 ifB v12
 (some (S1 (I6 7)))
 (loopR (ploop (F23_13 a0_2 a1) [(I6 0)] [])
 (fun i24 _L22 _M23 => bif Nat.beq i24 2 then
 (some (S1 (I6 0)))
 else (none))
 (fun L22 _M23 => some (S1 (nthD L22 0))))))
 (bindD (pNot v4) fun v25 =>
 ifB v25
 (some (S1 (I6 7)))
 (loopR (ploop (F23_26 a0_2 a1) [(I6 0)] [])
 (fun i37 _L35 _M36 => bif Nat.beq i37 2 then
 (some (S1 (I6 0)))
 else (none))
 (fun L35 _M36 => some (S1 (nthD L35 0))))))))
 (bindD (pBin .neq a0_0 (I6 1)) fun v38 =>
 ifB v38
 (bindD (pBin .neq a0_1 (I6 0)) fun v39 =>
 ifB v39
 (some (S1 (I6 7)))
 (bindD (pNot v4) fun v40 =>
 ifB v40
 (some (S1 (I6 7)))
 (loopR (ploop (F23_41 a0_2 a1) [(I6 0)] [])
 (fun i52 _L50 _M51 => bif Nat.beq i52 2 then
 (some (S1 (I6 0)))
 else (none))
 (fun L50 _M51 => some (S1 (nthD L50 0))))))
 (bindD (pNot v4) fun v53 =>
 ifB v53
 (some (S1 (I6 7)))
 (loopR (ploop (F23_54 a0_2 a1) [(I6 0)] [])
 (fun i65 _L63 _M64 => bif Nat.beq i65 2 then
 (some (S1 (I6 0)))
 else (none))
 (fun L63 _M64 => some (S1 (nthD L63 0)))))))))
 (bindD (pBin .eql a0_0 (I6 3)) fun v66 =>
 ifB v66
 (bindD (pBin .lss a0_0 (I6 1)) fun v67 =>
 ifB v67
 (some (S1 (I6 12)))
 (bindD (pBin .gtr a0_0 (I6 6)) fun v68 =>
 ifB v68
 (some (S1 (I6 12)))
 (bindD (pBin .eql a0_0 (I6 1)) fun v69 =>
 ifB v69
 (bindD (pBin .lss a0_1 (I6 0)) fun v70 =>
 ifB v70
 (some (S1 (I6 3)))
 (bindD (pBin .geq a0_1 a2) fun v71 =>
 ifB v71
 (some (S1 (I6 3)))
 (bindD (pBin .neq a0_0 (I6 1)) fun v72 =>
 ifB v72
 (bindD (pBin .neq a0_1 (I6 0)) fun v73 =>
 ifB v73
 (some (S1 (I6 7)))
 (bindD (pNot (.bool true)) fun v74 =>
 ifB v74
 (some (S1 (I6 7)))
 (loopR (ploop (F23_75 a0_2 a1) [(I6 0)] [])
 (fun i86 _L84 _M85 => bif Nat.beq i86 2 then
 (some (S1 (I6 0)))
 else (none))
 (fun L84 _M85 => some (S1 (nthD L84 0))))))
 (bindD (pNot (.bool true)) fun v87 =>
 ifB v87
 (some (S1 (I6 7)))
 (loopR (ploop (F23_88 a0_2 a1) [(I6 0)] [])
 (fun i99 _L97 _M98 => bif Nat.beq i99 2 then
 (some (S1 (I6 0)))
 else (none))
 (fun L97 _M98 => some (S1 (nthD L97 0))))))))
 (bindD (pBin .neq a0_0 (I6 1)) fun v100 =>
 ifB v100
 (bindD (pBin .neq a0_1 (I6 0)) fun v101 =>
 ifB v101
 (some (S1 (I6 7)))
 (bindD (pNot (.bool true)) fun v102 =>
 ifB v102
 (some (S1 (I6 7)))
 (loopR (ploop (F23_103 a0_2 a1) [(I6 0)] [])
 (fun i114 _L112 _M113 => bif Nat.beq i114 2 then
 (some (S1 (I6 0)))
 else (none))
 (fun L112 _M113 => some (S1 (nthD L112 0))))))
 (bindD (pNot (.bool true)) fun v115 =>
 ifB v115
 (some (S1 (I6 7)))
 (loopR (ploop (F23_116 a0_2 a1) [(I6 0)] [])
 (fun i127 _L125 _M126 => bif Nat.beq i127 2 then
 (some (S1 (I6 0)))
 else (none))
 (fun L125 _M126 => some (S1 (nthD L125 0)))))))))
 (bindD (pBin .eql a0_0 (I6 4)) fun v128 =>
 ifB v128
 (bindD (pBin .lss a0_0 (I6 1)) fun v129 =>
 ifB v129
 (some (S1 (I6 12)))
 (bindD (pBin .gtr a0_0 (I6 6)) fun v130 =>
 ifB v130
 (some (S1 (I6 12)))
 (bindD (pBin .eql a0_0 (I6 1)) fun v131 =>
 ifB v131
 (bindD (pBin .lss a0_1 (I6 0)) fun v132 =>
 ifB v132
 (some (S1 (I6 3)))
 (bindD (pBin .geq a0_1 a2) fun v133 =>
 ifB v133
 (some (S1 (I6 3)))
 (bindD (pBin .neq a0_0 (I6 1)) fun v134 =>
 ifB v134
 (bindD (pBin .neq a0_1 (I6 0)) fun v135 =>
 ifB v135
 (some (S1 (I6 7)))
 (bindD (pNot (.bool true)) fun v136 =>
 ifB v136
 (some (S1 (I6 7)))
 (loopR (ploop (F23_137 a0_2 a1) [(I6 0)] [])
 (fun i148 _L146 _M147 => bif Nat.beq i148 2 then
 (some (S1 (I6 0)))
 else (none))
 (fun L146 _M147 => some (S1 (nthD L146 0))))))
 (bindD (pNot (.bool true)) fun v149 =>
 ifB v149
 (some (S1 (I6 7)))
 (loopR (ploop (F23_150 a0_2 a1) [(I6 0)] [])
 (fun i161 _L159 _M160 => bif Nat.beq i161 2 then
 (some (S1 (I6 0)))
 else (none))
 (fun L159 _M160 => some (S1 (nthD L159 0))))))))
 (bindD (pBin .neq a0_0 (I6 1)) fun v162 =>
 ifB v162
 (bindD (pBin .neq a0_1 (I6 0)) fun v163 =>
 ifB v163
 (some (S1 (I6 7)))
 (bindD (pNot (.bool true)) fun v164 =>
 ifB v164
 (some (S1 (I6 7)))
 (loopR (ploop (F23_165 a0_2 a1) [(I6 0)] [])
 (fun i176 _L174 _M175 => bif Nat.beq i176 2 then
 (some (S1 (I6 0)))
 else (none))
 (fun L174 _M175 => some (S1 (nthD L174 0))))))
 (bindD (pNot (.bool true)) fun v177 =>
 ifB v177
 (some (S1 (I6 7)))
 (loopR (ploop (F23_178 a0_2 a1) [(I6 0)] [])
 (fun i189 _L187 _M188 => bif Nat.beq i189 2 then
 (some (S1 (I6 0)))
 else (none))
 (fun L187 _M188 => some (S1 (nthD L187 0)))))))))
 (bindD (pBin .lss a0_0 (I6 1)) fun v190 =>
 ifB v190
 (some (S1 (I6 12)))
 (bindD (pBin .gtr a0_0 (I6 6)) fun v191 =>
 ifB v191
 (some (S1 (I6 12)))
 (bindD (pBin .eql a0_0 (I6 1)) fun v192 =>
 ifB v192
 (bindD (pBin .lss a0_1 (I6 0)) fun v193 =>
 ifB v193
 (some (S1 (I6 3)))
 (bindD (pBin .geq a0_1 a2) fun v194 =>
 ifB v194
 (some (S1 (I6 3)))
 (bindD (pBin .neq a0_0 (I6 1)) fun v195 =>
 ifB v195
 (bindD (pBin .neq a0_1 (I6 0)) fun v196 =>
 ifB v196
 (some (S1 (I6 7)))
 (bindD (pNot v1) fun v197 =>
 ifB v197
 (some (S1 (I6 7)))
 (loopR (ploop (F23_198 a0_2 a1) [(I6 0)] [])
 (fun i209 _L207 _M208 => bif Nat.beq i209 2 then
 (some (S1 (I6 0)))
 else (none))
 (fun L207 _M208 => some (S1 (nthD L207 0))))))
 (bindD (pNot v1) fun v210 =>
 ifB v210
 (some (S1 (I6 7)))
 (loopR (ploop (F23_211 a0_2 a1) [(I6 0)] [])
 (fun i222 _L220 _M221 => bif Nat.beq i222 2 then
 (some (S1 (I6 0)))
 else (none))
 (fun L220 _M221 => some (S1 (nthD L220 0))))))))
 (bindD (pBin .neq a0_0 (I6 1)) fun v223 =>
 ifB v223
 (bindD (pBin .neq a0_1 (I6 0)) fun v224 =>
 ifB v224
 (some (S1 (I6 7)))
 (bindD (pNot v1) fun v225 =>
 ifB v225
 (some (S1 (I6 7)))
 (loopR (ploop (F23_226 a0_2 a1) [(I6 0)] [])
 (fun i237 _L235 _M236 => bif Nat.beq i237 2 then
 (some (S1 (I6 0)))
 else (none))
 (fun L235 _M236 => some (S1 (nthD L235 0))))))
 (bindD (pNot v1) fun v238 =>
 ifB v238
 (some (S1 (I6 7)))
 (loopR (ploop (F23_239 a0_2 a1) [(I6 0)] [])
 (fun i250 _L248 _M249 => bif Nat.beq i250 2 then
 (some (S1 (I6 0)))
 else (none))
 (fun L248 _M249 => some (S1 (nthD L248 0)))))))))))
theorem p23 (O : Orc) (a0_0 a0_1 a0_2 a1 a2 : DV) : pFun prog O tabI (inl prog O tabI anI23 redI 3) an23 23 [SA ([a0_0, a0_1, a0_2]), S1 a1, S1 a2] = P23 O a0_0 a0_1 a0_2 a1 a2 := by kernel_rfl
def an24 : Nat → Option LA := fun _ => none
def anI24 : Nat → List PA → Nat → Nat → Option LA := fun _ _ _ _ => none
noncomputable def P24 (O : Orc) (a0_0 a0_1 a0_2 a1 a2 : DV) : Option DA :=
  bindD (pBin .eql a0_0 (I6 1)) fun v0 =>
 ifB v0
 (bindD (pBin .lss a0_1 (I6 0)) fun v1 =>
 ifB v1
 (some (S1 (I6 3)))
 (bindD (pBin .geq a0_1 a2) fun v2 =>
 ifB v2
 (some (S1 (I6 3)))
 (bindD (pBin .neq a0_0 (I6 1)) fun v3 =>
 ifB v3
 (bindD (pBin .neq a0_1 (I6 0)) fun v4 =>
 ifB v4
 (some (S1 (I6 7)))
 (bindD (pLen a0_2) fun v5 =>
 bindD (pBin .lss v5 (I6 0)) fun v6 =>
 ifB v6
 (some (S1 (I6 7)))
 (bindD (pLen a0_2) fun v7 =>
 bindD (pBin .gtr v7 (I6 0)) fun v8 =>
 ifB v8
 (some (S1 (I6 7)))
 (b1s (O 20 [S1 a0_2, S1 (.fn 46 [[a1]])]) fun v9 =>
 ifB v9
 (some (S1 (I6 6)))
 (some (S1 (I6 0)))))))
 (bindD (pLen a0_2) fun v10 =>
 bindD (pBin .lss v10 (I6 0)) fun v11 =>
 ifB v11
 (some (S1 (I6 7)))
 (bindD (pLen a0_2) fun v12 =>
 bindD (pBin .gtr v12 (I6 0)) fun v13 =>
 ifB v13
 (some (S1 (I6 7)))
 (b1s (O 20 [S1 a0_2, S1 (.fn 46 [[a1]])]) fun v14 =>
 ifB v14
 (some (S1 (I6 6)))
 (some (S1 (I6 0)))))))))
 (bindD (pBin .eql a0_0 (I6 2)) fun v15 =>
 ifB v15
 (bindD (pBin .neq a0_0 (I6 1)) fun v16 =>
 ifB v16
 (bindD (pBin .neq a0_1 (I6 0)) fun v17 =>
 ifB v17
 (some (S1 (I6 7)))
 (bindD (pLen a0_2) fun v18 =>
 bindD (pBin .lss v18 (I6 1)) fun v19 =>
 ifB v19
 (some (S1 (I6 7)))
 (bindD (pLen a0_2) fun v20 =>
 bindD (pBin .gtr v20 (I6 1)) fun v21 =>
 ifB v21
 (some (S1 (I6 7)))
 (b1s (O 20 [S1 a0_2, S1 (.fn 46 [[a1]])]) fun v22 =>
 ifB v22
 (some (S1 (I6 6)))
 (some (S1 (I6 0)))))))
 (bindD (pLen a0_2) fun v23 =>
 bindD (pBin .lss v23 (I6 1)) fun v24 =>
 ifB v24
 (some (S1 (I6 7)))
 (bindD (pLen a0_2) fun v25 =>
 bindD (pBin .gtr v25 (I6 1)) fun v26 =>
 ifB v26
 (some (S1 (I6 7)))
 (b1s (O 20 [S1 a0_2, S1 (.fn 46 [[a1]])]) fun v27 =>
 ifB v27
 (some (S1 (I6 6)))
 (some (S1 (I6 0)))))))
 (bindD (pBin .eql a0_0 (I6 3)) fun v28 =>
 ifB v28
 (bindD (pLen a0_2) fun v29 =>
 bindD (pBin .neq a0_0 (I6 1)) fun v30 =>
 ifB v30
 (bindD (pBin .neq a0_1 (I6 0)) fun v31 =>
 ifB v31
 (some (S1 (I6 7)))
 (bindD (pLen a0_2) fun v32 =>
 bindD (pBin .lss v32 (I6 0)) fun v33 =>
 ifB v33
 (some (S1 (I6 7)))
 (bindD (pLen a0_2) fun v34 =>
 bindD (pBin .gtr v34 v29) fun v35 =>
 ifB v35
 (some (S1 (I6 7)))
 (b1s (O 20 [S1 a0_2, S1 (.fn 46 [[a1]])]) fun v36 =>
 ifB v36
 (some (S1 (I6 6)))
 (some (S1 (I6 0)))))))
 (bindD (pLen a0_2) fun v37 =>
 bindD (pBin .lss v37 (I6 0)) fun v38 =>
 ifB v38
 (some (S1 (I6 7)))
 (bindD (pLen a0_2) fun v39 =>
 bindD (pBin .gtr v39 v29) fun v40 =>
 ifB v40
 (some (S1 (I6 7)))
 (b1s (O 20 [S1 a0_2, S1 (.fn 46 [[a1]])]) fun v41 =>
 ifB v41
 (some (S1 (I6 6)))
 (some (S1 (I6 0)))))))
 (bindD (pBin .eql a0_0 (I6 4)) fun v42 =>
 ifB v42
 (bindD (pLen a0_2) fun v43 =>
 bindD (pBin .neq a0_0 (I6 1)) fun v44 =>
 ifB v44
 (bindD (pBin .neq a0_1 (I6 0)) fun v45 =>
 ifB v45
 (some (S1 (I6 7)))
 (bindD (pLen a0_2) fun v46 =>
 bindD (pBin .lss v46 (I6 0)) fun v47 =>
 ifB v47
 (some (S1 (I6 7)))
 (bindD (pLen a0_2) fun v48 =>
 bindD (pBin .gtr v48 v43) fun v49 =>
 ifB v49
 (some (S1 (I6 7)))
 (b1s (O 20 [S1 a0_2, S1 (.fn 46 [[a1]])]) fun v50 =>
 ifB v50
 (some (S1 (I6 6)))
 (some (S1 (I6 0)))))))
 (bindD (pLen a0_2) fun v51 =>
 bindD (pBin .lss v51 (I6 0)) fun v52 =>
 ifB v52
 (some (S1 (I6 7)))
 (bindD (pLen a0_2) fun v53 =>
 bindD (pBin .gtr v53 v43) fun v54 =>
 ifB v54
 (some (S1 (I6 7)))
 (b1s (O 20 [S1 a0_2, S1 (.fn 46 [[a1]])]) fun v55 =>
 ifB v55
 (some (S1 (I6 6)))
 (some (S1 (I6 0)))))))
 (bindD (pBin .eql a0_0 (I6 5)) fun v56 =>
 ifB v56
 (bindD (pBin .neq a0_0 (I6 1)) fun v57 =>
 ifB v57
 (bindD (pBin .neq a0_1 (I6 0)) fun v58 =>
 ifB v58
 (some (S1 (I6 7)))
 (bindD (pLen a0_2) fun v59 =>
 bindD (pBin .lss v59 (I6 0)) fun v60 =>
 ifB v60
 (some (S1 (I6 7)))
 (bindD (pLen a0_2) fun v61 =>
 bindD (pBin .gtr v61 (I6 0)) fun v62 =>
 ifB v62
 (some (S1 (I6 7)))
 (b1s (O 20 [S1 a0_2, S1 (.fn 46 [[a1]])]) fun v63 =>
 ifB v63
 (some (S1 (I6 6)))
 (some (S1 (I6 0)))))))
 (bindD (pLen a0_2) fun v64 =>
 bindD (pBin .lss v64 (I6 0)) fun v65 =>
 ifB v65
 (some (S1 (I6 7)))
 (bindD (pLen a0_2) fun v66 =>
 bindD (pBin .gtr v66 (I6 0)) fun v67 =>
 ifB v67
 (some (S1 (I6 7)))
 (b1s (O 20 [S1 a0_2, S1 (.fn 46 [[a1]])]) fun v68 =>
 ifB v68
 (some (S1 (I6 6)))
 (some (S1 (I6 0)))))))
 (bindD (pBin .eql a0_0 (I6 6)) fun v69 =>
 ifB v69
 (bindD (pBin .neq a0_0 (I6 1)) fun v70 =>
 ifB v70
 (bindD (pBin .neq a0_1 (I6 0)) fun v71 =>
 ifB v71
 (some (S1 (I6 7)))
 (bindD (pLen a0_2) fun v72 =>
 bindD (pBin .lss v72 (I6 0)) fun v73 =>
 ifB v73
 (some (S1 (I6 7)))
 (bindD (pLen a0_2) fun v74 =>
 bindD (pBin .gtr v74 (I6 0)) fun v75 =>
 ifB v75
 (some (S1 (I6 7)))
 (b1s (O 20 [S1 a0_2, S1 (.fn 46 [[a1]])]) fun v76 =>
 ifB v76
 (some (S1 (I6 6)))
 (some (S1 (I6 0)))))))
 (bindD (pLen a0_2) fun v77 =>
 bindD (pBin .lss v77 (I6 0)) fun v78 =>
 ifB v78
 (some (S1 (I6 7)))
 (bindD (pLen a0_2) fun v79 =>
 bindD (pBin .gtr v79 (I6 0)) fun v80 =>
 ifB v80
 (some (S1 (I6 7)))
 (b1s (O 20 [S1 a0_2, S1 (.fn 46 [[a1]])]) fun v81 =>
 ifB v81
 (some (S1 (I6 6)))
 (some (S1 (I6 0)))))))
 (some (S1 (I6 12))))))))
theorem p24 (O : Orc) (a0_0 a0_1 a0_2 a1 a2 : DV) : pFun prog O tabI (inl prog O tabI anI24 redI 3) an24 24 [SA ([a0_0, a0_1, a0_2]), S1 a1, S1 a2] = P24 O a0_0 a0_1 a0_2 a1 a2 := by kernel_rfl
def an25 : Nat → Option LA := fun _ => none
def anI25 : Nat → List PA → Nat → Nat → Option LA := fun _ _ _ _ => none
noncomputable def P25 (_O : Orc) (a0 c0_0 _c0_1 : DV) : Option DA :=
  bindD (pBin .lss a0 (I6 0)) fun v0 =>
 ifB v0
 (some (S1 (.bool true)))
 (bindD (pLen c0_0) fun v1 =>
 bindD (pBin .geq a0 v1) fun v2 =>
 some (S1 v2))
theorem p25 (O : Orc) (a0 c0_0 c0_1 : DV) : pFun prog O tabI (inl prog O tabI anI25 redI 3) an25 25 [S1 a0, S1 (.fp [c0_0, c0_1] 0)] = P25 O a0 c0_0 c0_1 := by kernel_rfl
def an26 : Nat → Option LA := fun _ => none
def anI26 : Nat → List PA → Nat → Nat → Option LA := fun _ _ _ _ => none
noncomputable def P26 (O : Orc) (a0_0 a0_1 a0_2 a1_0 a1_1 a1_2 : DV) : Option DA :=
  bindD (pBin .eql a0_0 a1_0) fun v0 =>
 ifB v0
 (bindD (pBin .eql a0_1 a1_1) fun v1 =>
 ifB v1
 (b1 (O 27 [S1 a0_2, S1 a1_2]) fun v2 =>
 some (S1 v2))
 (some (S1 (.bool false))))
 (some (S1 (.bool false)))
theorem p26 (O : Orc) (a0_0 a0_1 a0_2 a1_0 a1_1 a1_2 : DV) : pFun prog O tabI (inl prog O tabI anI26 redI 3) an26 26 [SA ([a0_0, a0_1, a0_2]), SA ([a1_0, a1_1, a1_2])] = P26 O a0_0 a0_1 a0_2 a1_0 a1_1 a1_2 := by kernel_rfl
def an27 : Nat → Option LA := fun i => match i with | 0 => some ⟨[.slot 13], [], [], [], [], [], [.slot 4], [], []⟩ | _ => none
def anI27 : Nat → List PA → Nat → Nat → Option LA := fun _ _ _ _ => none
noncomputable def F27_4 (v3 : DV) (a0 : DV) (a1 : DV) (L4 : List DV) (_M5 : List OC) : Option PX :=
  bindD (pBin .lss (nthD L4 0) v3) fun v6 =>
 ifB v6
 (bindD (pIdx 1 a0 (nthD L4 0)) fun x7 =>
 bindD (pIdx 1 a1 (nthD L4 0)) fun x8 =>
 bindD (pBin .neq (atD x7 0) (atD x8 0)) fun v9 =>
 ifB v9
 (some (.ret, [(.bool false)], []))
 (bindD (pBin .add (nthD L4 0) (I6 1)) fun v10 =>
 some (.normal, [v10], [])))
 (some (.exit 0, [], []))
noncomputable def P27 (_O : Orc) (a0 a1 : DV) : Option DA :=
  bindD (pLen a0) fun v0 =>
 bindD (pLen a1) fun v1 =>
 bindD (pBin .neq v0 v1) fun v2 =>
 ifB v2
 (some (S1 (.bool false)))
 (bindD (pLen a0) fun v3 =>
 loopR (ploop (F27_4 v3 a0 a1) [(I6 0)] [])
 (fun i13 _L11 _M12 => bif Nat.beq i13 0 then
 (some (S1 (.bool true)))
 else (none))
 (fun L11 _M12 => some (S1 (nthD L11 0))))
theorem p27 (O : Orc) (a0 a1 : DV) : pFun prog O tabI (inl prog O tabI anI27 redI 3) an27 27 [S1 a0, S1 a1] = P27 O a0 a1 := by kernel_rfl
def an28 : Nat → Option LA := fun i => match i with | 0 => some ⟨[.slot 17], [], [], [], [], [], [.slot 6], [], []⟩ | _ => none
def anI28 : Nat → List PA → Nat → Nat → Option LA := fun _ _ _ _ => none
noncomputable def F28_4 (O : Orc) (v3 : DV) (a0 : DV) (a1 : DV) (a2 : DV) (L4 : List DV) (_M5 : List OC) : Option PX :=
  bindD (pBin .lss (nthD L4 0) v3) fun v6 =>
 ifB v6
 (bindD (pIdx 3 a0 (nthD L4 0)) fun x7 =>
 bindD (pIdx 3 a1 (nthD L4 0)) fun x8 =>
 b1 (appF O a2 [SA ([(atD x7 0), (atD x7 1), (atD x7 2)]), SA ([(atD x8 0), (atD x8 1), (atD x8 2)])]) fun v9 =>
 bindD (pNot v9) fun v10 =>
 ifB v10
 (some (.ret, [(.bool false)], []))
 (bindD (pBin .add (nthD L4 0) (I6 1)) fun v11 =>
 some (.normal, [v11], [])))
 (some (.exit 0, [], []))
noncomputable def P28 (O : Orc) (a0 a1 a2 : DV) : Option DA :=
  bindD (pLen a0) fun v0 =>
 bindD (pLen a1) fun v1 =>
 bindD (pBin .neq v0 v1) fun v2 =>
 ifB v2
 (some (S1 (.bool false)))
 (bindD (pLen a0) fun v3 =>
 loopR (ploop (F28_4 O v3 a0 a1 a2) [(I6 0)] [])
 (fun i14 _L12 _M13 => bif Nat.beq i14 0 then
 (some (S1 (.bool true)))
 else (none))
 (fun L12 _M13 => some (S1 (nthD L12 0))))
theorem p28 (O : Orc) (a0 a1 a2 : DV) : pFun prog O tabI (inl prog O tabI anI28 redI 3) an28 28 [S1 a0, S1 a1, S1 a2] = P28 O a0 a1 a2 := by kernel_rfl
def an45 : Nat → Option LA := fun i => match i with | 0 => some ⟨[.slot 8], [], [], [], [], [], [.slot 4], [], []⟩ | _ => none
def anI45 : Nat → List PA → Nat → Nat → Option LA := fun _ _ _ _ => none
noncomputable def F45_1 (O : Orc) (v0 : DV) (a0 : DV) (a1 : DV) (L1 : List DV) (_M2 : List OC) : Option PX :=
  bindD (pBin .lss (nthD L1 0) v0) fun v3 =>
 ifB v3
 (bindD (pIdx 1 a0 (nthD L1 0)) fun x4 =>
 b1 (appF O a1 [S1 (atD x4 0)]) fun v5 =>
 ifB v5
 (some (.ret, [(nthD L1 0)], []))
 (bindD (pBin .add (nthD L1 0) (I6 1)) fun v6 =>
 some (.normal, [v6], [])))
 (some (.exit 0, [], []))
noncomputable def P45 (O : Orc) (a0 a1 : DV) : Option DA :=
  bindD (pLen a0) fun v0 =>
 loopR (ploop (F45_1 O v0 a0 a1) [(I6 0)] [])
 (fun i9 _L7 _M8 => bif Nat.beq i9 0 then
 (some (S1 (I6 (-1))))
 else (none))
 (fun L7 _M8 => some (S1 (nthD L7 0)))
theorem p45 (O : Orc) (a0 a1 : DV) : pFun prog O tabI (inl prog O tabI anI45 redI 3) an45 45 [S1 a0, S1 a1] = P45 O a0 a1 := by kernel_rfl
def an46 : Nat → Option LA := fun _ => none
def anI46 : Nat → List PA → Nat → Nat → Option LA := fun _ _ _ _ => none
noncomputable def P46 (_O : Orc) (a0 c0_0 : DV) : Option DA :=
  bindD (pBin .lss a0 (I6 0)) fun v0 =>
 ifB v0
 (some (S1 (.bool true)))
 (bindD (pBin .geq a0 c0_0) fun v1 =>
 some (S1 v1))
theorem p46 (O : Orc) (a0 c0_0 : DV) : pFun prog O tabI (inl prog O tabI anI46 redI 3) an46 46 [S1 a0, S1 (.fp [c0_0] 0)] = P46 O a0 c0_0 := by kernel_rfl
def anT (g : Nat) : Nat → Option LA := match g with
 | 4 => an4
 | 6 => an6
 | 7 => an7
 | 8 => an8
 | 11 => an11
 | 12 => an12
 | 13 => an13
 | 20 => an20
 | 23 => an23
 | 24 => an24
 | 25 => an25
 | 26 => an26
 | 27 => an27
 | 28 => an28
 | 45 => an45
 | 46 => an46
 | _ => fun _ => none
def anIT (g : Nat) : Nat → List PA → Nat → Nat → Option LA := match g with
 | 4 => anI4
 | 6 => anI6
 | 7 => anI7
 | 8 => anI8
 | 11 => anI11
 | 12 => anI12
 | 13 => anI13
 | 20 => anI20
 | 23 => anI23
 | 24 => anI24
 | 25 => anI25
 | 26 => anI26
 | 27 => anI27
 | 28 => anI28
 | 45 => anI45
 | 46 => anI46
 | _ => fun _ _ _ _ => none
theorem d4 {sums : List CE.Sum} {B : Orc} {k : Nat} (a0_0 a0_1 a1_0 a1_1 a2 : DV) (hB : B 4 [SA ([a0_0, a0_1]), SA ([a1_0, a1_1]), S1 a2] = none) (hs : sums.all (fun s => !Nat.beq 4 s.g) = true) : deep prog sums B anT tabI anIT redI 3 (k + 1) 4 [SA ([a0_0, a0_1]), SA ([a1_0, a1_1]), S1 a2] = P4 (deep prog sums B anT tabI anIT redI 3 k) a0_0 a0_1 a1_0 a1_1 a2 := (deep_form hB hs).trans (p4 _ _ _ _ _ _)
theorem d6 {sums : List CE.Sum} {B : Orc} {k : Nat} (a0_0 a0_1 : DV) (hB : B 6 [SA ([a0_0, a0_1])] = none) (hs : sums.all (fun s => !Nat.beq 6 s.g) = true) : deep prog sums B anT tabI anIT redI 3 (k + 1) 6 [SA ([a0_0, a0_1])] = P6 (deep prog sums B anT tabI anIT redI 3 k) a0_0 a0_1 := (deep_form hB hs).trans (p6 _ _ _)
theorem d7 {sums : List CE.Sum} {B : Orc} {k : Nat} (a0_0 a0_1 a1 : DV) (hB : B 7 [SA ([a0_0, a0_1]), S1 a1] = none) (hs : sums.all (fun s => !Nat.beq 7 s.g) = true) : deep prog sums B anT tabI anIT redI 3 (k + 1) 7 [SA ([a0_0, a0_1]), S1 a1] = P7 (deep prog sums B anT tabI anIT redI 3 k) a0_0 a0_1 a1 := (deep_form hB hs).trans (p7 _ _ _ _)
theorem d8 {sums : List CE.Sum} {B : Orc} {k : Nat} (a0_0 a0_1 a1 : DV) (hB : B 8 [SA ([a0_0, a0_1]), S1 a1] = none) (hs : sums.all (fun s => !Nat.beq 8 s.g) = true) : deep prog sums B anT tabI anIT redI 3 (k + 1) 8 [SA ([a0_0, a0_1]), S1 a1] = P8 (deep prog sums B anT tabI anIT redI 3 k) a0_0 a0_1 a1 := (deep_form hB hs).trans (p8 _ _ _ _)
theorem d11 {sums : List CE.Sum} {B : Orc} {k : Nat} (a0 a1 : DV) (hB : B 11 [S1 a0, S1 a1] = none) (hs : sums.all (fun s => !Nat.beq 11 s.g) = true) : deep prog sums B anT tabI anIT redI 3 (k + 1) 11 [S1 a0, S1 a1] = P11 (deep prog sums B anT tabI anIT redI 3 k) a0 a1 := (deep_form hB hs).trans (p11 _ _ _)
theorem d12 {sums : List CE.Sum} {B : Orc} {k : Nat} (a0_0 a0_1 a1 : DV) (hB : B 12 [SA ([a0_0, a0_1]), S1 a1] = none) (hs : sums.all (fun s => !Nat.beq 12 s.g) = true) : deep prog sums B anT tabI anIT redI 3 (k + 1) 12 [SA ([a0_0, a0_1]), S1 a1] = P12 (deep prog sums B anT tabI anIT redI 3 k) a0_0 a0_1 a1 := (deep_form hB hs).trans (p12 _ _ _ _)
theorem d13 {sums : List CE.Sum} {B : Orc} {k : Nat} (a0_0 a0_1 a1_0 a1_1 : DV) (hB : B 13 [SA ([a0_0, a0_1]), SA ([a1_0, a1_1])] = none) (hs : sums.all (fun s => !Nat.beq 13 s.g) = true) : deep prog sums B anT tabI anIT redI 3 (k + 1) 13 [SA ([a0_0, a0_1]), SA ([a1_0, a1_1])] = P13 (deep prog sums B anT tabI anIT redI 3 k) a0_0 a0_1 a1_0 a1_1 := (deep_form hB hs).trans (p13 _ _ _ _ _)
theorem d20 {sums : List CE.Sum} {B : Orc} {k : Nat} (a0 a1 : DV) (hB : B 20 [S1 a0, S1 a1] = none) (hs : sums.all (fun s => !Nat.beq 20 s.g) = true) : deep prog sums B anT tabI anIT redI 3 (k + 1) 20 [S1 a0, S1 a1] = P20 (deep prog sums B anT tabI anIT redI 3 k) a0 a1 := (deep_form hB hs).trans (p20 _ _ _)
theorem d23 {sums : List CE.Sum} {B : Orc} {k : Nat} (a0_0 a0_1 a0_2 a1 a2 : DV) (hB : B 23 [SA ([a0_0, a0_1, a0_2]), S1 a1, S1 a2] = none) (hs : sums.all (fun s => !Nat.beq 23 s.g) = true) : deep prog sums B anT tabI anIT redI 3 (k + 1) 23 [SA ([a0_0, a0_1, a0_2]), S1 a1, S1 a2] = P23 (deep prog sums B anT tabI anIT redI 3 k) a0_0 a0_1 a0_2 a1 a2 := (deep_form hB hs).trans (p23 _ _ _ _ _ _)
theorem d24 {sums : List CE.Sum} {B : Orc} {k : Nat} (a0_0 a0_1 a0_2 a1 a2 : DV) (hB : B 24 [SA ([a0_0, a0_1, a0_2]), S1 a1, S1 a2] = none) (hs : sums.all (fun s => !Nat.beq 24 s.g) = true) : deep prog sums B anT tabI anIT redI 3 (k + 1) 24 [SA ([a0_0, a0_1, a0_2]), S1 a1, S1 a2] = P24 (deep prog sums B anT tabI anIT redI 3 k) a0_0 a0_1 a0_2 a1 a2 := (deep_form hB hs).trans (p24 _ _ _ _ _ _)
theorem d25 {sums : List CE.Sum} {B : Orc} {k : Nat} (a0 c0_0 c0_1 : DV) (hB : B 25 [S1 a0, S1 (.fp [c0_0, c0_1] 0)] = none) (hs : sums.all (fun s => !Nat.beq 25 s.g) = true) : deep prog sums B anT tabI anIT redI 3 (k + 1) 25 [S1 a0, S1 (.fp [c0_0, c0_1] 0)] = P25 (deep prog sums B anT tabI anIT redI 3 k) a0 c0_0 c0_1 := (deep_form hB hs).trans (p25 _ _ _ _)
theorem d26 {sums : List CE.Sum} {B : Orc} {k : Nat} (a0_0 a0_1 a0_2 a1_0 a1_1 a1_2 : DV) (hB : B 26 [SA ([a0_0, a0_1, a0_2]), SA ([a1_0, a1_1, a1_2])] = none) (hs : sums.all (fun s => !Nat.beq 26 s.g) = true) : deep prog sums B anT tabI anIT redI 3 (k + 1) 26 [SA ([a0_0, a0_1, a0_2]), SA ([a1_0, a1_1, a1_2])] = P26 (deep prog sums B anT tabI anIT redI 3 k) a0_0 a0_1 a0_2 a1_0 a1_1 a1_2 := (deep_form hB hs).trans (p26 _ _ _ _ _ _ _)
theorem d27 {sums : List CE.Sum} {B : Orc} {k : Nat} (a0 a1 : DV) (hB : B 27 [S1 a0, S1 a1] = none) (hs : sums.all (fun s => !Nat.beq 27 s.g) = true) : deep prog sums B anT tabI anIT redI 3 (k + 1) 27 [S1 a0, S1 a1] = P27 (deep prog sums B anT tabI anIT redI 3 k) a0 a1 := (deep_form hB hs).trans (p27 _ _ _)
theorem d28 {sums : List CE.Sum} {B : Orc} {k : Nat} (a0 a1 a2 : DV) (hB : B 28 [S1 a0, S1 a1, S1 a2] = none) (hs : sums.all (fun s => !Nat.beq 28 s.g) = true) : deep prog sums B anT tabI anIT redI 3 (k + 1) 28 [S1 a0, S1 a1, S1 a2] = P28 (deep prog sums B anT tabI anIT redI 3 k) a0 a1 a2 := (deep_form hB hs).trans (p28 _ _ _ _)
theorem d45 {sums : List CE.Sum} {B : Orc} {k : Nat} (a0 a1 : DV) (hB : B 45 [S1 a0, S1 a1] = none) (hs : sums.all (fun s => !Nat.beq 45 s.g) = true) : deep prog sums B anT tabI anIT redI 3 (k + 1) 45 [S1 a0, S1 a1] = P45 (deep prog sums B anT tabI anIT redI 3 k) a0 a1 := (deep_form hB hs).trans (p45 _ _ _)
theorem d46 {sums : List CE.Sum} {B : Orc} {k : Nat} (a0 c0_0 : DV) (hB : B 46 [S1 a0, S1 (.fp [c0_0] 0)] = none) (hs : sums.all (fun s => !Nat.beq 46 s.g) = true) : deep prog sums B anT tabI anIT redI 3 (k + 1) 46 [S1 a0, S1 (.fp [c0_0] 0)] = P46 (deep prog sums B anT tabI anIT redI 3 k) a0 c0_0 := (deep_form hB hs).trans (p46 _ _ _)
end Go.Proofs.Tryz.Kn
end
section
namespace Go.Proofs.Tryz.Kn
open Go Go.CE Go.PE
theorem red_ok {sums : List CE.Sum} (_ : ∀ s ∈ sums, Nat.beq 0 s.g = false) : RedOk tabI redI (fun n => evCallS (cCode prog) (cFs (cProg prog)) sums n) := noRed_ok
end Go.Proofs.Tryz.Kn
end
section
namespace Go.Proofs.Tryz.Kn
open Go Go.CE Go.PE
noncomputable def kSum : CE.Sum := ⟨5, [], [], .s (.one (.bool true))⟩
theorem kSum_ok : SumOk Tryz.prog kSum := by
 refine ⟨_, callS_ok fs_ok sums_ok 100000, ?_⟩
 obtain ⟨h2, e⟩ := isTrue_inv known_true
 unfold Sum.chk
 rw [show evCallS (cCode Tryz.prog) fs sums 100000 (.inl kSum.g) kSum.args kSum.heap = some (.s (.one (.bool true)), h2) from e]
 rfl
noncomputable def bSums : List CE.Sum := [kSum]
theorem bSums_ok : ∀ s ∈ bSums, SumOk Tryz.prog s := by
 intro s hs
 simp only [bSums, List.mem_cons, List.not_mem_nil, or_false] at hs
 subst hs
 exact kSum_ok
theorem bSums_other {g : Nat} (h : Nat.beq g 5 = false) : ∀ s ∈ bSums, Nat.beq g s.g = false := by
 intro s hs
 simp only [bSums, List.mem_cons, List.not_mem_nil, or_false] at hs
 subst hs
 exact h
noncomputable def B : Orc := sumB [5] bSums
noncomputable def D (k : Nat) : Orc := deep prog bSums B anT tabI anIT redI 3 k
theorem tabI_not : ∀ g, tabI g = true → ∀ s ∈ bSums, Nat.beq g s.g = false := by
 intro g hg
 refine bSums_other ?_
 cases h : Nat.beq g 5 with
 | false => rfl
 | true =>
  have := Nat.eq_of_beq_eq_true h
  subst this
  cases hg
theorem D_ok (k : Nat) : OrcOk (D k) (fun n => evCallS (cCode prog) (cFs (cProg prog)) bSums n) := deep_ok (red_ok (bSums_other rfl)) tabI_not sumB_ok k
theorem D5 (k : Nat) : D k 5 [] = some (S1 (.bool true)) := deep_base (by kernel_rfl)
theorem D4 (k : Nat) (a0_0 a0_1 a1_0 a1_1 a2 : DV) : D (k + 1) 4 [SA ([a0_0, a0_1]), SA ([a1_0, a1_1]), S1 a2] = P4 (D k) a0_0 a0_1 a1_0 a1_1 a2 := d4 _ _ _ _ _ rfl rfl
theorem D6 (k : Nat) (a0_0 a0_1 : DV) : D (k + 1) 6 [SA ([a0_0, a0_1])] = P6 (D k) a0_0 a0_1 := d6 _ _ rfl rfl
theorem D8 (k : Nat) (a0_0 a0_1 a1 : DV) : D (k + 1) 8 [SA ([a0_0, a0_1]), S1 a1] = P8 (D k) a0_0 a0_1 a1 := d8 _ _ _ rfl rfl
theorem D11 (k : Nat) (a0 a1 : DV) : D (k + 1) 11 [S1 a0, S1 a1] = P11 (D k) a0 a1 := d11 _ _ rfl rfl
theorem D12 (k : Nat) (a0_0 a0_1 a1 : DV) : D (k + 1) 12 [SA ([a0_0, a0_1]), S1 a1] = P12 (D k) a0_0 a0_1 a1 := d12 _ _ _ rfl rfl
theorem D13 (k : Nat) (a0_0 a0_1 a1_0 a1_1 : DV) : D (k + 1) 13 [SA ([a0_0, a0_1]), SA ([a1_0, a1_1])] = P13 (D k) a0_0 a0_1 a1_0 a1_1 := d13 _ _ _ _ rfl rfl
theorem D20 (k : Nat) (a0 a1 : DV) : D (k + 1) 20 [S1 a0, S1 a1] = P20 (D k) a0 a1 := d20 _ _ rfl rfl
theorem D23 (k : Nat) (a0_0 a0_1 a0_2 a1 a2 : DV) : D (k + 1) 23 [SA ([a0_0, a0_1, a0_2]), S1 a1, S1 a2] = P23 (D k) a0_0 a0_1 a0_2 a1 a2 := d23 _ _ _ _ _ rfl rfl
theorem D24 (k : Nat) (a0_0 a0_1 a0_2 a1 a2 : DV) : D (k + 1) 24 [SA ([a0_0, a0_1, a0_2]), S1 a1, S1 a2] = P24 (D k) a0_0 a0_1 a0_2 a1 a2 := d24 _ _ _ _ _ rfl rfl
theorem D25 (k : Nat) (a0 c0_0 c0_1 : DV) : D (k + 1) 25 [S1 a0, S1 (.fp [c0_0, c0_1] 0)] = P25 (D k) a0 c0_0 c0_1 := d25 _ _ _ rfl rfl
theorem D26 (k : Nat) (a0_0 a0_1 a0_2 a1_0 a1_1 a1_2 : DV) : D (k + 1) 26 [SA ([a0_0, a0_1, a0_2]), SA ([a1_0, a1_1, a1_2])] = P26 (D k) a0_0 a0_1 a0_2 a1_0 a1_1 a1_2 := d26 _ _ _ _ _ _ rfl rfl
theorem D27 (k : Nat) (a0 a1 : DV) : D (k + 1) 27 [S1 a0, S1 a1] = P27 (D k) a0 a1 := d27 _ _ rfl rfl
theorem D28 (k : Nat) (a0 a1 a2 : DV) : D (k + 1) 28 [S1 a0, S1 a1, S1 a2] = P28 (D k) a0 a1 a2 := d28 _ _ _ rfl rfl
theorem D45 (k : Nat) (a0 a1 : DV) : D (k + 1) 45 [S1 a0, S1 a1] = P45 (D k) a0 a1 := d45 _ _ rfl rfl
theorem D46 (k : Nat) (a0 c0_0 : DV) : D (k + 1) 46 [S1 a0, S1 (.fp [c0_0] 0)] = P46 (D k) a0 c0_0 := d46 _ _ rfl rfl
end Go.Proofs.Tryz.Kn
end
section
namespace Go.Proofs.Tryz.Kn
open Go Go.CE Go.PE
abbrev enW (n : Int) : List DV := [I6 n]
structure Gate where
 kind : Int
 arg : Int
 ins : PE.Sl Int
def enG (g : Gate) : List DV := [I6 g.kind, I6 g.arg, enL 1 enW g.ins]
def gOk (g : Gate) : Prop := g.ins.els.length ≤ 9223372036854775807
structure Net where
 gates : PE.Sl Gate
 outs : PE.Sl Int
def enN (n : Net) : List DV := [enL 3 enG n.gates, enL 1 enW n.outs]
structure Net.ok (n : Net) : Prop where
 gl : n.gates.els.length ≤ 9223372036854775807
 ol : n.outs.els.length ≤ 9223372036854775807
 gs : ∀ g ∈ n.gates.els, gOk g
def findI {α : Type} (p : α → Bool) : List α → Nat → Option Nat
 | [], _ => none
 | x :: l, i => if p x then some i else findI p l (i + 1)
theorem findI_isSome {α : Type} (p : α → Bool) : ∀ (l : List α) (i : Nat), (findI p l i).isSome = l.any p
 | [], _ => rfl
 | x :: l, i => by
  simp only [findI, List.any_cons]
  cases h : p x
  ·simp [findI_isSome p l (i + 1)]
  ·simp
def found : Option Nat → PX
 | some i => (.ret, [I6 (i : Int)], [])
 | none => (.exit 0, [], [])
def errX (id : Nat) (e : Int) : PX := if e ≠ 0 then (.ret, [I6 e], []) else (.exit id, [], [])
theorem l45 (k : Nat) (fv : DV) (p : Int → Bool) (l : PE.Sl Int) (hc : ∀ x ∈ l.els, appF (D k) fv [S1 (I6 x)] = some (S1 (Bo (p x)))) (hl : l.els.length ≤ 9223372036854775807) : ∀ (r : List Int) (i : Nat), l.els.drop i = r →
  ploop (F45_1 (D k) (I6 (l.els.length : Int)) (enL 1 enW l) fv) [I6 (i : Int)] [] = some (found (findI p r i)) := by
 intro r
 induction r with
 | nil =>
  intro i h
  refine ploop_exit ?_
  simp only [F45_1, nthD_z, pBin_lss, bindD_some, nlt_i (end_drop h), ifB_eq]
  rfl
 | cons x r ih =>
  intro i h
  have h1 := lt_drop h
  have hcx := hc x (List.mem_of_getElem? (get_drop h))
  have ea : pBin .add (I6 (i : Int)) (I6 1) = some (I6 ((i + 1 : Nat) : Int)) := add64
  have body : F45_1 (D k) (I6 (l.els.length : Int)) (enL 1 enW l) fv [I6 (i : Int)] [] = some (if p x then (.ret, [I6 (i : Int)], []) else (.normal, [I6 ((i + 1 : Nat) : Int)], [])) := by
   simp only [F45_1, nthD_z, pBin_lss, bindD_some, lt_i h1, ifB_eq, if_true, pIdx_drop h, atD_z, hcx, b1_some, ea]
   cases p x <;> rfl
  cases hp : p x with
  | true => rw [hp] at body; rw [ploop_ret body]; simp [findI, hp, found]
  | false => rw [hp] at body; rw [ploop_go body, ih (i + 1) (next_drop h)]; simp [findI, hp]
theorem t45 (k : Nat) (fv : DV) (p : Int → Bool) (l : PE.Sl Int) (hc : ∀ x ∈ l.els, appF (D k) fv [S1 (I6 x)] = some (S1 (Bo (p x)))) (hl : l.els.length ≤ 9223372036854775807) :
  D (k + 1) 45 [S1 (enL 1 enW l), S1 fv] = some (S1 (I6 (match findI p l.els 0 with | some i => (i : Int) | none => -1))) := by
 rw [D45]
 unfold P45
 have := l45 k fv p l hc hl l.els 0 rfl
 simp only [pLen_enL, bindD_some]
 rw [show (I6 0 : DV) = I6 ((0 : Nat) : Int) from rfl, this]
 cases findI p l.els 0 <;> rfl
theorem t20 (k : Nat) (fv : DV) (p : Int → Bool) (l : PE.Sl Int) (hc : ∀ x ∈ l.els, appF (D k) fv [S1 (I6 x)] = some (S1 (Bo (p x)))) (hl : l.els.length ≤ 9223372036854775807) : D (k + 2) 20 [S1 (enL 1 enW l), S1 fv] = some (S1 (Bo (l.els.any p))) := by
 rw [D20]
 unfold P20
 rw [t45 k fv p l hc hl, ← findI_isSome p l.els 0]
 cases findI p l.els 0 with
 | none => rfl
 | some i =>
  have : (0 : Int) ≤ (i : Int) := by omega
  simp [this]
def badIn (at_ : Int) (i : Int) : Bool := decide (i < 0) || decide (at_ ≤ i)
def formOk (kind : Int) (n : Nat) : Bool := if kind = 2 then decide (n = 1) else if kind = 3 ∨ kind = 4 then true else decide (n = 0)
def gateErr (g : Gate) (at_ vars : Int) : Int :=
 if g.kind < 1 ∨ 6 < g.kind then 12 else if g.kind = 1 ∧ (g.arg < 0 ∨ vars ≤ g.arg) then 3
 else if (g.kind ≠ 1 ∧ g.arg ≠ 0) ∨ formOk g.kind g.ins.els.length = false then 7 else if g.ins.els.any (badIn at_) then 6 else 0
theorem t46 (k : Nat) (at_ x : Int) : D (k + 1) 46 [S1 (I6 x), S1 (.fp [I6 at_] 0)] = some (S1 (Bo (badIn at_ x))) := by
 rw [D46]
 unfold P46 badIn
 by_cases h1 : x < 0 <;> by_cases h2 : at_ ≤ x <;> simp [h1, h2]
theorem t24 (k : Nat) (g : Gate) (hg : gOk g) (at_ vars : Int) : D (k + 4) 24 [SA (enG g), S1 (I6 at_), S1 (I6 vars)] = some (S1 (I6 (gateErr g at_ vars))) := by
 have c := t20 (k + 1) (.fn 46 [[I6 at_]]) (badIn at_) g.ins (fun x _ => t46 k at_ x) hg
 unfold enG
 rw [D24]
 unfold P24 gateErr formOk
 simp only [pLen_enL, c, b1s_b, bindD_some, pBin_eql, pBin_lss, pBin_geq, pBin_gtr, pBin_neq, ifB_eq, decide_eq_true_eq]
 generalize g.ins.els.any (badIn at_) = q
 have hn : ((g.ins.els.length : Int) < 0) = False := by simp
 have hnn : ((g.ins.els.length : Int) < (g.ins.els.length : Int)) = False := by simp
 by_cases k1 : g.kind = 1
 ·rw [k1]
  by_cases a1 : g.arg < 0 <;> by_cases a2 : vars ≤ g.arg <;> by_cases a3 : g.ins.els.length = 0 <;> cases q <;> simp [a1, a2, a3, hn] <;> omega
 by_cases k2 : g.kind = 2
 ·rw [k2]
  by_cases a1 : g.arg = 0 <;> by_cases a2 : g.ins.els.length = 1 <;> by_cases a3 : g.ins.els.length = 0 <;> cases q <;> simp [a1, a2, a3] <;> omega
 by_cases k3 : g.kind = 3
 ·rw [k3]
  by_cases a1 : g.arg = 0 <;> cases q <;> simp [a1, hn, hnn]
 by_cases k4 : g.kind = 4
 ·rw [k4]
  by_cases a1 : g.arg = 0 <;> cases q <;> simp [a1, hn, hnn]
 by_cases k5 : g.kind = 5
 ·rw [k5]
  by_cases a1 : g.arg = 0 <;> by_cases a3 : g.ins.els.length = 0 <;> cases q <;> simp [a1, a3, hn] <;> omega
 by_cases k6 : g.kind = 6
 ·rw [k6]
  by_cases a1 : g.arg = 0 <;> by_cases a3 : g.ins.els.length = 0 <;> cases q <;> simp [a1, a3, hn] <;> omega
 ·have : g.kind < 1 ∨ 6 < g.kind := by omega
  simp [k1, k2, k3, k4, k5, k6, this]
theorem l23 (l : PE.Sl Int) (hl : l.els.length ≤ 9223372036854775807) (at_ : Int) : ∀ (r : List Int) (i : Nat), l.els.drop i = r →
  ploop (F23_13 (enL 1 enW l) (I6 at_)) [I6 (i : Int)] [] = some (if r.any (badIn at_) then (.ret, [I6 6], []) else (.exit 2, [], [])) := by
 intro r
 induction r with
 | nil =>
  intro i h
  refine ploop_exit ?_
  simp only [F23_13, nthD_z, pLen_enL, pBin_lss, bindD_some, nlt_i (end_drop h), ifB_eq]
  rfl
 | cons x r ih =>
  intro i h
  have h1 := lt_drop h
  have ea : pBin .add (I6 (i : Int)) (I6 1) = some (I6 ((i + 1 : Nat) : Int)) := add64
  have body : F23_13 (enL 1 enW l) (I6 at_) [I6 (i : Int)] [] = some (if badIn at_ x then (.ret, [I6 6], []) else (.normal, [I6 ((i + 1 : Nat) : Int)], [])) := by
   simp only [F23_13, nthD_z, pLen_enL, pBin_lss, bindD_some, lt_i h1, ifB_eq, if_true, pIdx_drop h, atD_z, pBin_geq, ea]
   unfold badIn
   by_cases h2 : x < 0 <;> by_cases h3 : at_ ≤ x <;> simp [h2, h3]
  cases hp : badIn at_ x with
  | true => rw [hp] at body; rw [ploop_ret body]; simp [hp]
  | false => rw [hp] at body; rw [ploop_go body, ih (i + 1) (next_drop h)]; simp [hp]
theorem f23a : F23_26 = F23_13 := rfl
theorem f23b : F23_41 = F23_13 := rfl
theorem f23c : F23_54 = F23_13 := rfl
theorem f23d : F23_75 = F23_13 := rfl
theorem f23e : F23_88 = F23_13 := rfl
theorem f23f : F23_103 = F23_13 := rfl
theorem f23g : F23_116 = F23_13 := rfl
theorem f23h : F23_137 = F23_13 := rfl
theorem f23i : F23_150 = F23_13 := rfl
theorem f23j : F23_165 = F23_13 := rfl
theorem f23k : F23_178 = F23_13 := rfl
theorem f23l : F23_198 = F23_13 := rfl
theorem f23m : F23_211 = F23_13 := rfl
theorem f23n : F23_226 = F23_13 := rfl
theorem f23o : F23_239 = F23_13 := rfl
theorem t23 (k : Nat) (g : Gate) (hg : gOk g) (at_ vars : Int) : D (k + 1) 23 [SA (enG g), S1 (I6 at_), S1 (I6 vars)] = some (S1 (I6 (gateErr g at_ vars))) := by
 have c := l23 g.ins hg at_ g.ins.els 0 rfl
 unfold enG
 rw [D23]
 unfold P23 gateErr formOk
 rw [show (I6 ((0 : Nat) : Int) : DV) = I6 0 from rfl] at c
 simp only [f23a, f23b, f23c, f23d, f23e, f23f, f23g, f23h, f23i, f23j, f23k, f23l, f23m, f23n, f23o, c, pLen_enL, bindD_some, pBin_eql, pBin_lss, pBin_geq, pBin_gtr, pBin_neq, ifB_eq, pNot_bool, decide_eq_true_eq]
 generalize g.ins.els.any (badIn at_) = q
 by_cases k1 : g.kind = 1
 ·rw [k1]
  by_cases a1 : g.arg < 0 <;> by_cases a2 : vars ≤ g.arg <;> by_cases a3 : g.ins.els.length = 0 <;> cases q <;> simp [a1, a2, a3] <;> omega
 by_cases k2 : g.kind = 2
 ·rw [k2]
  by_cases a1 : g.arg = 0 <;> by_cases a2 : g.ins.els.length = 1 <;> cases q <;> simp [a1, a2] <;> omega
 by_cases k3 : g.kind = 3
 ·rw [k3]
  by_cases a1 : g.arg = 0 <;> cases q <;> simp [a1]
 by_cases k4 : g.kind = 4
 ·rw [k4]
  by_cases a1 : g.arg = 0 <;> cases q <;> simp [a1]
 by_cases k5 : g.kind = 5
 ·rw [k5]
  by_cases a1 : g.arg = 0 <;> by_cases a3 : g.ins.els.length = 0 <;> cases q <;> simp [a1, a3] <;> omega
 by_cases k6 : g.kind = 6
 ·rw [k6]
  by_cases a1 : g.arg = 0 <;> by_cases a3 : g.ins.els.length = 0 <;> cases q <;> simp [a1, a3] <;> omega
 ·have hk : g.kind < 1 ∨ 6 < g.kind := by omega
  rcases hk with hk | hk
  ·simp [k2, k3, k4, hk]
  ·have : ¬ (g.kind < 1) := by omega
   simp [k2, k3, k4, hk, this]
def gatesErr (vars : Int) : List Gate → Nat → Int
 | [], _ => 0
 | g :: r, i => if gateErr g (i : Int) vars ≠ 0 then gateErr g (i : Int) vars else gatesErr vars r (i + 1)
def badOut (n : Nat) (i : Int) : Bool := badIn (n : Int) i
def checkErr (n : Net) (vars : Int) : Int :=
 if vars < 0 then 3 else if gatesErr vars n.gates.els 0 ≠ 0 then gatesErr vars n.gates.els 0 else if n.outs.els.any (badOut n.gates.els.length) then 10 else 0
theorem l8 (k : Nat) (l : PE.Sl Gate) (hl : l.els.length ≤ 9223372036854775807) (hg : ∀ g ∈ l.els, gOk g) (vars : Int) : ∀ (r : List Gate) (i : Nat), l.els.drop i = r →
  ploop (F8_1 (D (k + 1)) (enL 3 enG l) (I6 vars)) [I6 (i : Int)] [] = some (errX 0 (gatesErr vars r i)) := by
 intro r
 induction r with
 | nil =>
  intro i h
  refine ploop_exit ?_
  simp only [F8_1, nthD_z, pLen_enL, pBin_lss, bindD_some, nlt_i (end_drop h), ifB_eq]
  rfl
 | cons g r ih =>
  intro i h
  have h1 := lt_drop h
  have ea : pBin .add (I6 (i : Int)) (I6 1) = some (I6 ((i + 1 : Nat) : Int)) := add64
  have c : D (k + 1) 23 [SA [atD (enG g) 0, atD (enG g) 1, atD (enG g) 2], S1 (I6 (i : Int)), S1 (I6 vars)] = some (S1 (I6 (gateErr g (i : Int) vars))) := t23 k g (hg g (List.mem_of_getElem? (get_drop h))) _ _
  have body : F8_1 (D (k + 1)) (enL 3 enG l) (I6 vars) [I6 (i : Int)] [] = some (if gateErr g (i : Int) vars ≠ 0 then (.ret, [I6 (gateErr g (i : Int) vars)], []) else (.normal, [I6 ((i + 1 : Nat) : Int)], [])) := by
   simp only [F8_1, nthD_z, pLen_enL, pBin_lss, bindD_some, lt_i h1, ifB_eq, if_true, pIdx_drop h, c, b1_some, pBin_neq, ea]
   by_cases hz : gateErr g (i : Int) vars = 0 <;> simp [hz]
  by_cases hc : gateErr g (i : Int) vars = 0
  ·rw [if_neg (by simpa using hc)] at body; rw [ploop_go body, ih (i + 1) (next_drop h)]; simp [gatesErr, hc]
  ·rw [if_pos hc] at body; rw [ploop_ret body]; simp [gatesErr, hc, errX]
theorem l8o (gs : PE.Sl Gate) (l : PE.Sl Int) (hl : l.els.length ≤ 9223372036854775807) : ∀ (r : List Int) (i : Nat), l.els.drop i = r →
  ploop (F8_12 (enL 1 enW l) (enL 3 enG gs)) [I6 (i : Int)] [] = some (if r.any (badOut gs.els.length) then (.ret, [I6 10], []) else (.exit 2, [], [])) := by
 intro r
 induction r with
 | nil =>
  intro i h
  refine ploop_exit ?_
  simp only [F8_12, nthD_z, pLen_enL, pBin_lss, bindD_some, nlt_i (end_drop h), ifB_eq]
  rfl
 | cons x r ih =>
  intro i h
  have h1 := lt_drop h
  have ea : pBin .add (I6 (i : Int)) (I6 1) = some (I6 ((i + 1 : Nat) : Int)) := add64
  have body : F8_12 (enL 1 enW l) (enL 3 enG gs) [I6 (i : Int)] [] = some (if badOut gs.els.length x then (.ret, [I6 10], []) else (.normal, [I6 ((i + 1 : Nat) : Int)], [])) := by
   simp only [F8_12, nthD_z, pLen_enL, pBin_lss, bindD_some, lt_i h1, ifB_eq, if_true, pIdx_drop h, atD_z, pBin_geq, ea]
   unfold badOut badIn
   by_cases h2 : x < 0 <;> by_cases h3 : (gs.els.length : Int) ≤ x <;> simp [h2, h3]
  cases hp : badOut gs.els.length x with
  | true => rw [hp] at body; rw [ploop_ret body]; simp [hp]
  | false => rw [hp] at body; rw [ploop_go body, ih (i + 1) (next_drop h)]; simp [hp]
theorem t8 (k : Nat) (n : Net) (hn : n.ok) (vars : Int) : D (k + 2) 8 [SA (enN n), S1 (I6 vars)] = some (S1 (I6 (checkErr n vars))) := by
 have c := l8 k n.gates hn.gl hn.gs vars n.gates.els 0 rfl
 have d := l8o n.gates n.outs hn.ol n.outs.els 0 rfl
 unfold enN
 rw [D8]
 unfold P8 checkErr
 simp only [pBin_lss, bindD_some, ifB_eq, decide_eq_true_eq]
 by_cases h1 : vars < 0
 ·simp [h1]
 rw [if_neg h1, if_neg h1, show (I6 0 : DV) = I6 ((0 : Nat) : Int) from rfl, c]
 unfold errX
 by_cases h2 : gatesErr vars n.gates.els 0 = 0
 ·rw [if_neg (by simpa using h2), if_neg (by simpa using h2)]
  simp only [loopR_exit, d]
  cases n.outs.els.any (badOut n.gates.els.length) <;> rfl
 ·rw [if_pos h2, if_pos h2]
  rfl
theorem l12 (k : Nat) (l : PE.Sl Gate) (hl : l.els.length ≤ 9223372036854775807) (hg : ∀ g ∈ l.els, gOk g) (vars : Int) : ∀ (r : List Gate) (i : Nat), l.els.drop i = r →
  ploop (F12_4 (D (k + 4)) (I6 (l.els.length : Int)) (enL 3 enG l) (I6 vars)) [I6 (i : Int)] [] = some (errX 0 (gatesErr vars r i)) := by
 intro r
 induction r with
 | nil =>
  intro i h
  refine ploop_exit ?_
  simp only [F12_4, nthD_z, pBin_lss, bindD_some, nlt_i (end_drop h), ifB_eq]
  rfl
 | cons g r ih =>
  intro i h
  have h1 := lt_drop h
  have ea : pBin .add (I6 (i : Int)) (I6 1) = some (I6 ((i + 1 : Nat) : Int)) := add64
  have c : D (k + 4) 24 [SA [atD (enG g) 0, atD (enG g) 1, atD (enG g) 2], S1 (I6 (i : Int)), S1 (I6 vars)] = some (S1 (I6 (gateErr g (i : Int) vars))) := t24 k g (hg g (List.mem_of_getElem? (get_drop h))) _ _
  have body : F12_4 (D (k + 4)) (I6 (l.els.length : Int)) (enL 3 enG l) (I6 vars) [I6 (i : Int)] [] = some (if gateErr g (i : Int) vars ≠ 0 then (.ret, [I6 (gateErr g (i : Int) vars)], []) else (.normal, [I6 ((i + 1 : Nat) : Int)], [])) := by
   simp only [F12_4, nthD_z, pBin_lss, bindD_some, lt_i h1, ifB_eq, if_true, pIdx_drop h, c, b1_some, pBin_neq, ea]
   by_cases hz : gateErr g (i : Int) vars = 0 <;> simp [hz]
  by_cases hc : gateErr g (i : Int) vars = 0
  ·rw [if_neg (by simpa using hc)] at body; rw [ploop_go body, ih (i + 1) (next_drop h)]; simp [gatesErr, hc]
  ·rw [if_pos hc] at body; rw [ploop_ret body]; simp [gatesErr, hc, errX]
theorem t25 (k : Nat) (n : Net) (x : Int) : D (k + 1) 25 [S1 (I6 x), S1 (.fp (enN n) 0)] = some (S1 (Bo (badOut n.gates.els.length x))) := by
 unfold enN
 rw [D25]
 unfold P25 badOut badIn
 by_cases h1 : x < 0 <;> by_cases h2 : (n.gates.els.length : Int) ≤ x <;> simp [h1, h2]
theorem t12 (k : Nat) (n : Net) (hn : n.ok) (vars : Int) : D (k + 5) 12 [SA (enN n), S1 (I6 vars)] = some (S1 (I6 (if vars < 0 then 3 else if 50000 < n.gates.els.length then 4 else checkErr n vars))) := by
 have c := l12 k n.gates hn.gl hn.gs vars n.gates.els 0 rfl
 have d := t20 (k + 2) (.fn 25 [enN n]) (badOut n.gates.els.length) n.outs (fun x _ => t25 (k + 1) n x) hn.ol
 unfold enN at d ⊢
 rw [D12]
 unfold P12 checkErr
 simp only [pBin_lss, bindD_some, ifB_eq, decide_eq_true_eq, pLen_enL, pBin_gtr]
 by_cases h1 : vars < 0
 ·simp [h1]
 rw [if_neg h1, if_neg h1]
 by_cases h3 : 50000 < n.gates.els.length
 ·have h4 : (50000 : Int) < (n.gates.els.length : Int) := by omega
  rw [if_pos h4, if_pos h3]
 have h4 : ¬ ((50000 : Int) < (n.gates.els.length : Int)) := by omega
 rw [if_neg h4, if_neg h3, if_neg h1, show (I6 0 : DV) = I6 ((0 : Nat) : Int) from rfl, c]
 unfold errX
 by_cases h2 : gatesErr vars n.gates.els 0 = 0
 ·rw [if_neg (by simpa using h2), if_neg (by simpa using h2)]
  simp only [loopR_exit, d]
  cases n.outs.els.any (badOut n.gates.els.length) <;> rfl
 ·rw [if_pos h2, if_pos h2]
  rfl
theorem l11 (a b : PE.Sl Int) (hl : a.els.length = b.els.length) (hb : a.els.length ≤ 9223372036854775807) : ∀ (r q : List Int) (i : Nat), a.els.drop i = r → b.els.drop i = q →
  ploop (F11_3 (enL 1 enW a) (enL 1 enW b)) [I6 (i : Int)] [] = some (if r = q then (.exit 0, [], []) else (.ret, [Bo false], [])) := by
 intro r
 induction r with
 | nil =>
  intro q i h h'
  have := end_drop h
  have hq : q = [] := by rw [← h']; exact List.drop_eq_nil_of_le (by omega)
  subst hq
  refine ploop_exit ?_
  simp only [F11_3, nthD_z, pLen_enL, bindD_some, pBin_lss, nlt_i this, ifB_eq]
  rfl
 | cons x r ih =>
  intro q i h h'
  have h1 := lt_drop h
  cases q with
  | nil => have := end_drop h'; omega
  | cons y q =>
   have ea : pBin .add (I6 (i : Int)) (I6 1) = some (I6 ((i + 1 : Nat) : Int)) := add64
   have body : F11_3 (enL 1 enW a) (enL 1 enW b) [I6 (i : Int)] [] = some (if x = y then (.normal, [I6 ((i + 1 : Nat) : Int)], []) else (.ret, [Bo false], [])) := by
    simp only [F11_3, nthD_z, pLen_enL, bindD_some, pBin_lss, lt_i h1, ifB_eq, if_true, pIdx_drop h, pIdx_drop h', atD_z, pBin_neq, ea]
    by_cases hz : x = y <;> simp [hz]
   by_cases hc : x = y
   ·rw [if_pos hc] at body
    rw [ploop_go body, ih q (i + 1) (next_drop h) (next_drop h')]
    simp [hc]
   ·rw [if_neg hc] at body
    rw [ploop_ret body]
    simp [hc]
theorem t11 (k : Nat) (a b : PE.Sl Int) (hb : a.els.length ≤ 9223372036854775807) : D (k + 1) 11 [S1 (enL 1 enW a), S1 (enL 1 enW b)] = some (S1 (Bo (decide (a.els = b.els)))) := by
 rw [D11]
 unfold P11
 simp only [pLen_enL, bindD_some, pBin_neq, ifB_eq]
 by_cases h : a.els.length = b.els.length
 ·have := l11 a b h hb a.els b.els 0 rfl rfl
  have e : (!((a.els.length : Int) == (b.els.length : Int))) = false := by simp [h]
  rw [e, show (I6 0 : DV) = I6 ((0 : Nat) : Int) from rfl, this]
  by_cases hc : a.els = b.els <;> simp [hc]
 ·have e : (!((a.els.length : Int) == (b.els.length : Int))) = true := by
   have : ¬ ((a.els.length : Int) = (b.els.length : Int)) := by omega
   simp [this]
  have h2 : ¬ (a.els = b.els) := fun hh => h (by rw [hh])
  rw [e]
  simp [h2]
theorem l27 (a b : PE.Sl Int) (hl : a.els.length = b.els.length) (hb : a.els.length ≤ 9223372036854775807) : ∀ (r q : List Int) (i : Nat), a.els.drop i = r → b.els.drop i = q →
  ploop (F27_4 (I6 (a.els.length : Int)) (enL 1 enW a) (enL 1 enW b)) [I6 (i : Int)] [] = some (if r = q then (.exit 0, [], []) else (.ret, [Bo false], [])) := by
 intro r
 induction r with
 | nil =>
  intro q i h h'
  have := end_drop h
  have hq : q = [] := by rw [← h']; exact List.drop_eq_nil_of_le (by omega)
  subst hq
  refine ploop_exit ?_
  simp only [F27_4, nthD_z, bindD_some, pBin_lss, nlt_i this, ifB_eq]
  rfl
 | cons x r ih =>
  intro q i h h'
  have h1 := lt_drop h
  cases q with
  | nil => have := end_drop h'; omega
  | cons y q =>
   have ea : pBin .add (I6 (i : Int)) (I6 1) = some (I6 ((i + 1 : Nat) : Int)) := add64
   have body : F27_4 (I6 (a.els.length : Int)) (enL 1 enW a) (enL 1 enW b) [I6 (i : Int)] [] = some (if x = y then (.normal, [I6 ((i + 1 : Nat) : Int)], []) else (.ret, [Bo false], [])) := by
    simp only [F27_4, nthD_z, bindD_some, pBin_lss, lt_i h1, ifB_eq, if_true, pIdx_drop h, pIdx_drop h', atD_z, pBin_neq, ea]
    by_cases hz : x = y <;> simp [hz]
   by_cases hc : x = y
   ·rw [if_pos hc] at body
    rw [ploop_go body, ih q (i + 1) (next_drop h) (next_drop h')]
    simp [hc]
   ·rw [if_neg hc] at body
    rw [ploop_ret body]
    simp [hc]
theorem t27 (k : Nat) (a b : PE.Sl Int) (hb : a.els.length ≤ 9223372036854775807) : D (k + 1) 27 [S1 (enL 1 enW a), S1 (enL 1 enW b)] = some (S1 (Bo (decide (a.els = b.els)))) := by
 rw [D27]
 unfold P27
 simp only [pLen_enL, bindD_some, pBin_neq, ifB_eq]
 by_cases h : a.els.length = b.els.length
 ·have := l27 a b h hb a.els b.els 0 rfl rfl
  have e : (!((a.els.length : Int) == (b.els.length : Int))) = false := by simp [h]
  rw [e, show (I6 0 : DV) = I6 ((0 : Nat) : Int) from rfl, this]
  by_cases hc : a.els = b.els <;> simp [hc]
 ·have e : (!((a.els.length : Int) == (b.els.length : Int))) = true := by
   have : ¬ ((a.els.length : Int) = (b.els.length : Int)) := by omega
   simp [this]
  have h2 : ¬ (a.els = b.els) := fun hh => h (by rw [hh])
  rw [e]
  simp [h2]
def gKey (g : Gate) : Int × Int × List Int := (g.kind, g.arg, g.ins.els)
theorem t26 (k : Nat) (a b : Gate) (ha : gOk a) : D (k + 2) 26 [SA (enG a), SA (enG b)] = some (S1 (Bo (decide (gKey a = gKey b)))) := by
 have c := t27 k a.ins b.ins ha
 unfold enG
 rw [D26]
 unfold P26
 simp only [c, b1_some, pBin_eql, bindD_some, ifB_eq]
 unfold gKey
 by_cases h1 : a.kind = b.kind <;> by_cases h2 : a.arg = b.arg <;> by_cases h3 : a.ins.els = b.ins.els <;> simp [h1, h2, h3]
theorem l28 (k : Nat) (a b : PE.Sl Gate) (hl : a.els.length = b.els.length) (hb : a.els.length ≤ 9223372036854775807) (hg : ∀ g ∈ a.els, gOk g) : ∀ (r q : List Gate) (i : Nat), a.els.drop i = r → b.els.drop i = q →
  ploop (F28_4 (D (k + 2)) (I6 (a.els.length : Int)) (enL 3 enG a) (enL 3 enG b) (.fn 26 [])) [I6 (i : Int)] [] = some (if r.map gKey = q.map gKey then (.exit 0, [], []) else (.ret, [Bo false], [])) := by
 intro r
 induction r with
 | nil =>
  intro q i h h'
  have := end_drop h
  have hq : q = [] := by rw [← h']; exact List.drop_eq_nil_of_le (by omega)
  subst hq
  refine ploop_exit ?_
  simp only [F28_4, nthD_z, bindD_some, pBin_lss, nlt_i this, ifB_eq]
  rfl
 | cons x r ih =>
  intro q i h h'
  have h1 := lt_drop h
  cases q with
  | nil => have := end_drop h'; omega
  | cons y q =>
   have ea : pBin .add (I6 (i : Int)) (I6 1) = some (I6 ((i + 1 : Nat) : Int)) := add64
   have c : appF (D (k + 2)) (.fn 26 []) [SA [atD (enG x) 0, atD (enG x) 1, atD (enG x) 2], SA [atD (enG y) 0, atD (enG y) 1, atD (enG y) 2]] = some (S1 (Bo (decide (gKey x = gKey y)))) := t26 k x y (hg x (List.mem_of_getElem? (get_drop h)))
   have body : F28_4 (D (k + 2)) (I6 (a.els.length : Int)) (enL 3 enG a) (enL 3 enG b) (.fn 26 []) [I6 (i : Int)] [] = some (if gKey x = gKey y then (.normal, [I6 ((i + 1 : Nat) : Int)], []) else (.ret, [Bo false], [])) := by
    simp only [F28_4, nthD_z, bindD_some, pBin_lss, lt_i h1, ifB_eq, if_true, pIdx_drop h, pIdx_drop h', c, b1_some, pNot_bool, ea]
    by_cases hz : gKey x = gKey y <;> simp [hz]
   by_cases hc : gKey x = gKey y
   ·rw [if_pos hc] at body
    rw [ploop_go body, ih q (i + 1) (next_drop h) (next_drop h')]
    simp [hc]
   ·rw [if_neg hc] at body
    rw [ploop_ret body]
    simp [hc]
def eqNet (a b : Net) : Bool := decide (a.gates.els.map gKey = b.gates.els.map gKey) && decide (a.outs.els = b.outs.els)
theorem t13 (k : Nat) (a b : Net) (ha : a.ok) : D (k + 4) 13 [SA (enN a), SA (enN b)] = some (S1 (Bo (eqNet a b))) := by
 have c := t27 (k + 2) a.outs b.outs ha.ol
 have d : D (k + 3) 28 [S1 (enL 3 enG a.gates), S1 (enL 3 enG b.gates), S1 (.fn 26 [])] = some (S1 (Bo (decide (a.gates.els.map gKey = b.gates.els.map gKey)))) := by
  rw [D28]
  unfold P28
  simp only [pLen_enL, bindD_some, pBin_neq, ifB_eq]
  by_cases h : a.gates.els.length = b.gates.els.length
  ·have := l28 k a.gates b.gates h ha.gl ha.gs a.gates.els b.gates.els 0 rfl rfl
   have e : (!((a.gates.els.length : Int) == (b.gates.els.length : Int))) = false := by simp [h]
   rw [e, show (I6 0 : DV) = I6 ((0 : Nat) : Int) from rfl, this]
   by_cases hc : a.gates.els.map gKey = b.gates.els.map gKey <;> simp [hc]
  ·have e : (!((a.gates.els.length : Int) == (b.gates.els.length : Int))) = true := by
    have : ¬ ((a.gates.els.length : Int) = (b.gates.els.length : Int)) := by omega
    simp [this]
   have h2 : ¬ (a.gates.els.map gKey = b.gates.els.map gKey) := fun hh => h (by simpa using congrArg List.length hh)
   rw [e]
   simp [h2]
 unfold enN
 rw [D13]
 unfold P13 eqNet
 rw [d, b1_some, ifB_eq]
 by_cases h1 : a.gates.els.map gKey = b.gates.els.map gKey
 ·simp [h1, c]
 ·simp [h1]
theorem l6 (l : PE.Sl Gate) (hl : l.els.length ≤ 9223372036854775807) : ∀ (r : List Gate) (i : Nat), l.els.drop i = r →
  ploop (F6_0 (enL 3 enG l)) [I6 (i : Int)] [] = some (if r.all (fun g => decide (g.ins.els.length ≤ 20)) then (.exit 0, [], []) else (.ret, [Bo false], [])) := by
 intro r
 induction r with
 | nil =>
  intro i h
  refine ploop_exit ?_
  simp only [F6_0, nthD_z, pLen_enL, pBin_lss, bindD_some, nlt_i (end_drop h), ifB_eq]
  rfl
 | cons g r ih =>
  intro i h
  have h1 := lt_drop h
  have ea : pBin .add (I6 (i : Int)) (I6 1) = some (I6 ((i + 1 : Nat) : Int)) := add64
  have body : F6_0 (enL 3 enG l) [I6 (i : Int)] [] = some (if g.ins.els.length ≤ 20 then (.normal, [I6 ((i + 1 : Nat) : Int)], []) else (.ret, [Bo false], [])) := by
   simp only [F6_0, nthD_z, pLen_enL, pBin_lss, bindD_some, lt_i h1, ifB_eq, if_true, pIdx_drop h, enG, atD_z, atD_s, pBin_gtr, ea]
   by_cases hz : g.ins.els.length ≤ 20
   ·have : ¬ ((20 : Int) < (g.ins.els.length : Int)) := by omega
    simp [hz, this]
   ·have : (20 : Int) < (g.ins.els.length : Int) := by omega
    simp [hz, this]
  by_cases hc : g.ins.els.length ≤ 20
  ·rw [if_pos hc] at body; rw [ploop_go body, ih (i + 1) (next_drop h)]; simp [hc]
  ·rw [if_neg hc] at body; rw [ploop_ret body]; simp [hc]
def fewB (n : Net) : Bool := n.gates.els.all (fun g => decide (g.ins.els.length ≤ 20)) && decide (n.gates.els.length ≤ 20) && decide (n.outs.els.length ≤ 20)
theorem t6 (k : Nat) (n : Net) (hn : n.ok) : D (k + 1) 6 [SA (enN n)] = some (S1 (Bo (fewB n))) := by
 have l := l6 n.gates hn.gl n.gates.els 0 rfl
 unfold enN
 rw [D6]
 unfold P6 fewB
 rw [show (I6 0 : DV) = I6 ((0 : Nat) : Int) from rfl, l]
 cases n.gates.els.all (fun g => decide (g.ins.els.length ≤ 20)) with
 | false => rfl
 | true =>
  simp only [if_true, loopR_exit, pLen_enL, bindD_some, pBin_leq, ifB_eq, Bool.true_and]
  by_cases h1 : n.gates.els.length ≤ 20
  ·have h2 : (n.gates.els.length : Int) ≤ 20 := by omega
   by_cases h3 : n.outs.els.length ≤ 20
   ·have h4 : (n.outs.els.length : Int) ≤ 20 := by omega
    simp [h1, h2, h3, h4]
   ·have h4 : ¬ ((n.outs.els.length : Int) ≤ 20) := by omega
    simp [h1, h2, h3, h4]
  ·have h2 : ¬ ((n.gates.els.length : Int) ≤ 20) := by omega
   simp [h1, h2]
end Go.Proofs.Tryz.Kn
end
section
namespace Go.Proofs.Tryz.Kn
open Go Go.CE Go.PE
theorem l4f (O : Orc) (a b : DV) (l : PE.Sl Gate) (h : a = enL 3 enG l) (i : Nat) : ploop (F4_13 O a b) [I6 (i : Int), Bo false] [] = some (.exit 0, [Bo false], []) := by
 subst h
 refine ploop_exit ?_
 simp only [F4_13, nthD_z, nthD_s, pLen_enL, bindD_some, pBin_lss, ifB_eq]
 by_cases h : (i : Int) < (l.els.length : Int) <;> simp [h]
theorem l4 (k : Nat) (a b : PE.Sl Gate) (hl : a.els.length = b.els.length) (hb : a.els.length ≤ 9223372036854775807) (hg : ∀ g ∈ a.els, gOk g) : ∀ (r q : List Gate) (i : Nat), a.els.drop i = r → b.els.drop i = q →
  ploop (F4_13 (D (k + 1)) (enL 3 enG a) (enL 3 enG b)) [I6 (i : Int), Bo true] [] = some (.exit 0, [Bo (decide (r.map gKey = q.map gKey))], []) := by
 intro r
 induction r with
 | nil =>
  intro q i h h'
  have := end_drop h
  have hq : q = [] := by rw [← h']; exact List.drop_eq_nil_of_le (by omega)
  subst hq
  refine ploop_exit ?_
  simp only [F4_13, nthD_z, nthD_s, pLen_enL, bindD_some, pBin_lss, nlt_i this, ifB_eq]
  rfl
 | cons x r ih =>
  intro q i h h'
  have h1 := lt_drop h
  cases q with
  | nil => have := end_drop h'; omega
  | cons y q =>
   have ea : pBin .add (I6 (i : Int)) (I6 1) = some (I6 ((i + 1 : Nat) : Int)) := add64
   have c := t11 k x.ins y.ins (hg x (List.mem_of_getElem? (get_drop h)))
   have body : F4_13 (D (k + 1)) (enL 3 enG a) (enL 3 enG b) [I6 (i : Int), Bo true] [] = some (.normal, [I6 ((i + 1 : Nat) : Int), Bo (decide (gKey x = gKey y))], []) := by
    simp only [F4_13, nthD_z, nthD_s, pLen_enL, bindD_some, pBin_lss, lt_i h1, ifB_eq, if_true, pIdx_drop h, pIdx_drop h', enG, atD_z, atD_s, pBin_eql, c, b1_some, ea]
    unfold gKey
    by_cases h1 : x.kind = y.kind <;> by_cases h2 : x.arg = y.arg <;> by_cases h3 : x.ins.els = y.ins.els <;> simp [h1, h2, h3]
   rw [ploop_go body]
   by_cases hc : gKey x = gKey y
   ·rw [decide_eq_true hc, ih q (i + 1) (next_drop h) (next_drop h')]
    simp [hc]
   ·rw [decide_eq_false hc, l4f _ _ _ a rfl]
    simp [hc]
theorem f4e : F4_37 = F4_13 := rfl
def gate0 : Gate := ⟨0, 0, none⟩
def manyN : Net := ⟨some (List.replicate 50001 gate0), none⟩
theorem many_en : enN manyN = [.lst 3 (List.replicate 50001 [I6 0, I6 0, .nils]), .nils] := by
 unfold enN manyN
 rw [enL_some, List.map_replicate]
 rfl
theorem many_len : manyN.gates.els.length = 50001 := by
 unfold manyN
 rw [els_some, List.length_replicate]
theorem many_ok : manyN.ok := by
 refine ⟨?_, ?_, fun g hg => ?_⟩
 ·rw [many_len]; decide
 ·show (0 : Nat) ≤ _; decide
 ·unfold manyN at hg
  rw [els_some] at hg
  rw [List.eq_of_mem_replicate hg]
  show (0 : Nat) ≤ _; decide
theorem many_err (k : Nat) : D (k + 5) 12 [SA [.lst 3 (List.replicate 50001 [I6 0, I6 0, .nils]), .nils], S1 (I6 1)] = some (S1 (I6 4)) := by
 rw [← many_en, t12 k manyN many_ok 1, many_len]
 rfl
theorem few_16 (k : Nat) (n : Net) (hn : n.ok) (hf : fewB n = true) (vars : Int) : D (k + 5) 12 [SA (enN n), S1 (I6 vars)] = some (S1 (I6 (checkErr n vars))) := by
 rw [t12 k n hn vars]
 unfold fewB at hf
 simp only [Bool.and_eq_true, decide_eq_true_eq] at hf
 rw [if_neg (show ¬ (50000 < n.gates.els.length) by omega)]
 unfold checkErr
 by_cases h : vars < 0 <;> simp [h]
theorem eqNet_refl (n : Net) : eqNet n n = true := by unfold eqNet; simp
set_option maxRecDepth 20000 in
theorem t4 (k : Nat) (n m : Net) (hn : n.ok) (hm : m.ok) (vars : Int) : D (k + 6) 4 [SA (enN n), SA (enN m), S1 (I6 vars)] = some (S1 (Bo true)) := by
 have c7 := t6 (k + 4) n hn
 have d7 := t6 (k + 4) m hm
 have c15 := t11 (k + 4) n.outs m.outs hn.ol
 have c16 := fun h => few_16 k n hn h vars
 have c9 := t8 (k + 3) n hn vars
 have c17 := t13 (k + 1) n m hn
 have d17 := t13 (k + 1) n n hn
 rw [eqNet_refl] at d17
 have cm := many_err k
 have l := fun h => l4 (k + 4) n.gates m.gates h hn.gl hn.gs n.gates.els m.gates.els 0 rfl rfl
 have lf := l4f (D (k + 5)) (enL 3 enG n.gates) (enL 3 enG m.gates) n.gates rfl 0
 generalize hmany : (DV.lst 3 (List.replicate 50001 [I6 0, I6 0, .nils])) = many at cm
 unfold enN at c7 d7 c16 c9 c17 d17 ⊢
 rw [D4]
 unfold P4
 have hmk : mkN 40 (I6 50001) (I6 50001) = some 50001 := by kernel_rfl
 simp only [D5, b1_some, pNot_bool, bindD_some, ifB_eq, Bool.not_true, Bool.false_eq_true, if_false, c7]
 cases hfn : fewB n with
 | false => rfl
 | true =>
  simp only [Bool.not_true, Bool.false_eq_true, if_false, d7, b1_some, pNot_bool, bindD_some, ifB_eq]
  cases hfm : fewB m with
  | false => rfl
  | true =>
   have c16' := c16 hfn
   simp only [Bool.not_true, Bool.false_eq_true, if_false, c15, b1_some, ifB_eq, f4e, pLen_enL, bindD_some, pBin_eql]
   have fin : ∀ e : Bool, e = eqNet n m → (if (eqNet n m == e) = true then (some (S1 (Bo true)) : Option DA) else some (S1 (Bo false))) = some (S1 (Bo true)) := by
    intro e he; rw [he]; simp
   have heq : ∀ a b : Bool, eqD 0 (Bo a) (Bo b) = some (a == b) := fun a b => rfl
   by_cases ho : n.outs.els = m.outs.els
   ·rw [decide_eq_true ho, if_pos rfl]
    by_cases hl : n.gates.els.length = m.gates.els.length
    ·have e : ((n.gates.els.length : Int) == (m.gates.els.length : Int)) = true := by simp [hl]
     have l' := l hl
     rw [show (I6 ((0 : Nat) : Int) : DV) = I6 0 from rfl] at l'
     rw [e, l']
     simp only [loopR_exit, Nat.beq_refl, cond_true, hmk, bindD_some, hmany, c16', c9, b1_some, b1s_i, pBin_eql, beq_self_eq_true, ifB_eq, if_true, c17, nthD_z, heq, d17, cm]
     have : eqNet n m = decide (n.gates.els.map gKey = m.gates.els.map gKey) := by unfold eqNet; simp [ho]
     rw [← this]
     simp
    ·have e : ((n.gates.els.length : Int) == (m.gates.els.length : Int)) = false := by
      have : ¬ ((n.gates.els.length : Int) = (m.gates.els.length : Int)) := by omega
      simpa using this
     rw [show (I6 ((0 : Nat) : Int) : DV) = I6 0 from rfl] at lf
     rw [e, lf]
     simp only [loopR_exit, Nat.beq_refl, cond_true, hmk, bindD_some, hmany, c16', c9, b1_some, b1s_i, pBin_eql, beq_self_eq_true, ifB_eq, if_true, c17, nthD_z, heq, d17, cm]
     have : eqNet n m = false := by
      unfold eqNet
      have h2 : ¬ (n.gates.els.map gKey = m.gates.els.map gKey) := fun hh => hl (by simpa using congrArg List.length hh)
      simp [h2]
     rw [this]
     simp
   ·rw [decide_eq_false ho, if_neg (by decide)]
    rw [show (I6 ((0 : Nat) : Int) : DV) = I6 0 from rfl] at lf
    rw [lf]
    simp only [loopR_exit, Nat.beq_refl, cond_true, hmk, bindD_some, hmany, c16', c9, b1_some, b1s_i, pBin_eql, beq_self_eq_true, ifB_eq, if_true, c17, nthD_z, heq, d17, cm]
    have : eqNet n m = false := by unfold eqNet; simp [ho]
    rw [this]
    simp
end Go.Proofs.Tryz.Kn
end
section
namespace Go.Proofs.Tryz.Kn
open Go Go.CE Go.PE
set_option maxRecDepth 10000
end Go.Proofs.Tryz.Kn
end
section
namespace Go.Proofs.YtjnfoimeajajeaaGreatDoor
open Go Go.CE Go.PE Go.ChangeShapes Go.WideShapes Go.ChangeAt Go.RowKit Go.Proofs.Tryz.Kn Go.Joins
set_option maxRecDepth 100000
namespace Law
theorem own : ownKnob Tryz.prog.godebug = none := by kernel_rfl
theorem laidOut : laidOutB Tryz.prog = true := by kernel_rfl
theorem room (k : Nat) : (FR none).room k := by first | trivial | simp [Fence.room, Fence.wide]
def laid3 : List (String × DataW Unit) := [("math/bits.deBruijn32tab", Rows.laid_math_bits_deBruijn32tab), ("math/bits.deBruijn64tab", Rows.laid_math_bits_deBruijn64tab), ("internal/strconv.uint64pow10", Rows.laid_internal_strconv_uint64pow10)]
theorem door_met (os : Os) (args : Array Value) : laidMetH Tryz.prog laid3 ((World.doorLaid Tryz.prog 400 os).forCall (fun _ _ => 0) ⟨#[], args, []⟩).memory :=
 laidMetH_of_parts3 (fuel := 8) (laidMet_of_run' 8 (by kernel_rfl) (by kernel_rfl)) (by kernel_rfl) (by kernel_rfl)
theorem gw_of {W : World} : GOk W := by
 intro g off c h
 unfold gLoad at h
 cases h
theorem rows_of {α : Type} {f : α → List DV} {q : α → Prop} : ∀ {xs : List (List DV)}, (∀ x ∈ xs, ∃ a, x = f a ∧ q a) → ∃ l : List α, xs = l.map f ∧ ∀ a ∈ l, q a
 | [], _ => ⟨[], rfl, fun a h => by cases h⟩
 | x :: xs, H => by
  obtain ⟨a, rfl, h1⟩ := H x (List.mem_cons_self ..)
  obtain ⟨l, rfl, h2⟩ := rows_of fun y hy => H y (List.mem_cons_of_mem _ hy)
  exact ⟨a :: l, rfl, fun b hb => by
   rcases List.mem_cons.1 hb with rfl | hb
   ·exact h1
   ·exact h2 b hb⟩
theorem ty_struct {n t : Nat} {fs : Array Field} {ds : List DV} (e : Tryz.prog.underlying t = some (.struct fs)) (h : Ty Tryz.prog (n + 1) t ds) : TyFs (Ty Tryz.prog n) (fs.toList.map (·.type)) ds := by
 rw [Ty, e] at h; exact h
theorem ty_slice {n t el : Nat} {ds : List DV} (e : Tryz.prog.underlying t = some (.slice el)) (h : Ty Tryz.prog (n + 1) t ds) : ds = [.nils] ∨ ∃ xs, ds = [.lst (Tryz.prog.cellsOf el) xs] ∧ xs.length ≤ maxLen ∧ ∀ x ∈ xs, Ty Tryz.prog n el x := by
 rw [Ty, e] at h; exact h
theorem ty_int {n t : Nat} {k : IntKind} {ds : List DV} (e : Tryz.prog.underlying t = some (.int k)) (h : Ty Tryz.prog (n + 1) t ds) : ∃ m, ds = [.int k m] ∧ (Lit.int k m).wf = true := by
 rw [Ty, e] at h; exact h
theorem c38 : Tryz.prog.cellsOf 38 = 3 := by kernel_rfl
theorem c3 : Tryz.prog.cellsOf 3 = 1 := by kernel_rfl
theorem ty_i {n : Nat} {ds : List DV} (h : Ty Tryz.prog (n + 1) 3 ds) : ∃ m : Int, ds = [I6 m] := by
 have h := ty_int Tryz.underlying3 h
 obtain ⟨m, rfl, _⟩ := h
 exact ⟨m, rfl⟩
theorem ty23 {n : Nat} {ds : List DV} (h : Ty Tryz.prog (n + 2) 23 ds) : ∃ l : PE.Sl Int, ds = [enL 1 enW l] ∧ l.els.length ≤ 9223372036854775807 := by
 have h := ty_slice Tryz.underlying23 h
 rcases h with rfl | ⟨xs, rfl, h1, h2⟩
 ·exact ⟨none, rfl, by decide⟩
 ·obtain ⟨l, rfl, _⟩ := rows_of (f := enW) (q := fun _ => True) fun x hx => by obtain ⟨d, rfl⟩ := ty_i (h2 x hx); exact ⟨d, rfl, trivial⟩
  rw [List.length_map] at h1
  exact ⟨some l, by rw [c3, enL_some], Nat.le_trans h1 (by decide)⟩
theorem ty38 {n : Nat} {ds : List DV} (h : Ty Tryz.prog (n + 3) 38 ds) : ∃ g : Gate, ds = enG g ∧ gOk g := by
 have h := ty_struct Tryz.underlying38 h
 obtain ⟨a, b, rfl, h1, a2, b2, rfl, h2, a3, b3, rfl, h3, rfl⟩ := h
 obtain ⟨m1, rfl⟩ := ty_i h1
 obtain ⟨m2, rfl⟩ := ty_i h2
 obtain ⟨l, rfl, hl⟩ := ty23 h3
 exact ⟨⟨m1, m2, l⟩, rfl, hl⟩
theorem ty22 {n : Nat} {ds : List DV} (h : Ty Tryz.prog (n + 4) 22 ds) : ∃ l : PE.Sl Gate, ds = [enL 3 enG l] ∧ l.els.length ≤ 9223372036854775807 ∧ ∀ g ∈ l.els, gOk g := by
 have h := ty_slice Tryz.underlying22 h
 rcases h with rfl | ⟨xs, rfl, h1, h2⟩
 ·exact ⟨none, rfl, by decide, fun g h => by cases h⟩
 ·obtain ⟨l, rfl, h3⟩ := rows_of (f := enG) (q := gOk) fun x hx => ty38 (h2 x hx)
  rw [List.length_map] at h1
  exact ⟨some l, by rw [c38, enL_some], Nat.le_trans h1 (by decide), h3⟩
theorem ty25 {ds : List DV} (h : Ty Tryz.prog 5 25 ds) : ∃ n : Net, ds = enN n ∧ n.ok := by
 have h := ty_struct Tryz.underlying25 h
 obtain ⟨a, b, rfl, h1, a2, b2, rfl, h2, rfl⟩ := h
 obtain ⟨gs, rfl, h3, h4⟩ := ty22 h1
 obtain ⟨os, rfl, h5⟩ := ty23 h2
 exact ⟨⟨gs, os⟩, rfl, ⟨h3, h5, h4⟩⟩
theorem rr25 : Tryz.prog.readableRec 25 = true := by kernel_rfl
theorem lt25 : 25 < Tryz.prog.types.size := of_decide_eq_true (by kernel_rfl)
theorem rr3 : Tryz.prog.readableRec 3 = true := by kernel_rfl
theorem lt3 : 3 < Tryz.prog.types.size := of_decide_eq_true (by kernel_rfl)
theorem dt25 : dataT Tryz.prog 5 25 = true := by kernel_rfl
theorem dt3 : dataT Tryz.prog 1 3 = true := by kernel_rfl
end Law
end Go.Proofs.YtjnfoimeajajeaaGreatDoor
end
section
namespace Go.Proofs.YtjnfoimeajajeaaGreatDoor
open Go Go.CE Go.PE Go.ChangeShapes Go.WideShapes Go.ChangeAt Go.RowKit Go.Proofs.Tryz.Kn Go.Joins
namespace Checks
open Law
set_option maxRecDepth 100000 in
theorem lifted (os : Os) (started : os.Started) (H : Type) (enc : TypeId × Value → H) :
  ReturnsInHanded {} Tryz.checked os 4 .any (fun w args => (Rows.relayChecksSpec.pre enc Tryz.prog Tryz.f4 [] false w args ∧ laidMetH Tryz.prog laid3 w) ∧ sizedMet enc Tryz.prog Tryz.f4 (OpenSpec.ofChange Rows.relayChecksSpec) false w args)
   (Rows.relayChecksSpec.post enc Tryz.prog Tryz.f4 false true false false) := by
 refine returnsInHanded_of_change_and (C := Tryz.checked) (X := fun w _ => laidMetH Tryz.prog laid3 w) (fun _ _ _ hh h => h.of_heap hh) own started (by kernel_rfl) Tryz.func4
  (ChangeSpec.witness_shaped (enc := enc) (C := Tryz.checked) (os := os) (X := fun w _ => laidMetH Tryz.prog laid3 w) false (World.doorLaid Tryz.prog 400 os) #[.agg #[.slice none 0 0, .slice none 0 0], .agg #[.slice none 0 0, .slice none 0 0], .int .i64 0] 8 rfl (World.shaped_of_RefB (by kernel_rfl) (by kernel_rfl)) (by kernel_rfl) (by kernel_rfl) (by kernel_rfl) (door_met os _)) ?_
 intro W base args ds gs before hval0 hW _ _ hL _
 have hval : ∀ (j : Nat) t v, Tryz.f4.params[j]? = some t → args[j]? = some v → Value.okWide Tryz.prog W .any base t v := hval0
 have hW' := hW
 obtain ⟨p, q, hA0, hV, rfl, hfz, hnd⟩ := hW
 have hA : DataW.TrodAll enc Tryz.prog W 0 (fun _ => true) true Tryz.f4.params.toList args.toList ds p := hA0
 rw [Tryz.params4] at hA hval
 obtain ⟨v0, v1, v2, d0, d1, d2, p0, p1, p2, rfl, rfl, rfl, h0, h1, h2⟩ := trodAll_three hA
 obtain ⟨rfl, rfl⟩ := trodVars_none hV
 obtain ⟨vs0, es0, rfl, r0, w0, hty0⟩ := PE.open_row 5 (by kernel_rfl) dt25 (hval 0 25 v0 rfl rfl) h0
 obtain ⟨n, rfl, hn⟩ := ty25 hty0
 obtain ⟨vs1, es1, rfl, r1, w1, hty1⟩ := PE.open_row 5 (by kernel_rfl) dt25 (hval 1 25 v1 rfl rfl) h1
 obtain ⟨m, rfl, hm⟩ := ty25 hty1
 obtain ⟨c2, x2, rfl, r2, w2, hty2⟩ := PE.open_one 1 (by kernel_rfl) (by kernel_rfl) dt3 (hval 2 3 v2 rfl rfl) h2
 obtain ⟨w, hw⟩ := ty_i hty2
 obtain rfl : x2 = I6 w := (List.cons.inj hw).1
 clear hA0 hval0
 simp only [List.append_nil] at hW'
 have c := calls_of bSums_ok (D_ok 6) gw_of (g := 4) (vs := [.s (.agg vs0), .s (.agg vs1), .s (.one c2)]) (ds := [.s (.agg (enN n)), .s (.agg (enN m)), .s (.one (I6 w))])
  ⟨r0, r1, r2, trivial⟩ (fun x hx => by
   simp only [List.mem_cons, List.not_mem_nil, or_false] at hx
   rcases hx with rfl | rfl | rfl
   ·exact w0
   ·exact w1
   ·exact w2) (b := true) (t4 0 n m hn hm w)
 have hlt : ∀ x ∈ p0 ++ (p1 ++ p2), x.block < W.heap.size := fun x hx => hW'.lt x (by simpa using hx)
 refine (c.calls room).mono fun e W' ⟨he, hb⟩ => ⟨_, he, ?_⟩
 refine ⟨[d0, d1, d2], [], p0 ++ (p1 ++ p2), [], p0 ++ (p1 ++ p2), [], by simpa using hW', ?_, ?_, rfl, hb.frame _, fun hh => by cases hh⟩
 ·exact trodAll_mk1 (shut_bool Tryz.underlying4 true)
 ·exact trodAll_mk3 (Below.trod laidOut rr25 lt25 h0 hb fun x hx => hlt x (by simp [hx])) (Below.trod laidOut rr25 lt25 h1 hb fun x hx => hlt x (by simp [hx])) (Below.trod laidOut rr3 lt3 h2 hb fun x hx => hlt x (by simp [hx]))
end Checks
end Go.Proofs.YtjnfoimeajajeaaGreatDoor
end
section
namespace Go.Proofs.YtjnfoimeajajeaaGreatDoor
open Go Go.CE Go.PE Go.ChangeShapes Go.WideShapes Go.ChangeAt Go.RowKit Go.Proofs.Tryz.Kn Go.Joins
theorem relayChecks_said : Rows.RelayChecksSaid :=
 OpenClaim.holds_of_wide 4 Tryz.f4 rfl rfl rfl rfl rfl rfl rfl ⟨rfl, rfl, rfl, rfl, rfl⟩ rfl rfl rfl rfl rfl (by kernel_rfl) Tryz.func4 (by kernel_rfl)
  (of_decide_eq_true (by kernel_rfl)) (by unfold Func.isWrapper; first | (rw [if_pos (by decide +kernel)]; kernel_rfl) | (rw [if_neg (by decide +kernel)]; exact ⟨rfl, rfl⟩))
  (fun os started H enc _ => Checks.lifted os started H enc)
theorem relayChecks_holds : Rows.RelayChecksCardSaid :=
 Claim7.holds_tied_plain_at .later [] [.data, .data, .data] true (true, "f8dfc731151c9b0d6188406707a3b8899d5bd4da2712a905e5d5e7ee36c7cc63") false
  relayChecks_said (fun _ h => by cases h) (by kernel_rfl) (fun _ h => by cases h) relayChecks_row_tie rfl ⟨rfl, rfl⟩ (by kernel_rfl) rfl
  (fun f fn hf hfn => by
   obtain rfl : f = 4 := Option.some.inj ((show Tryz.prog.funcNamed "bombarde/bombardelaw28.RelayChecks" = some 4 by kernel_rfl).symm.trans hf) |>.symm
   obtain rfl : fn = Tryz.f4 := (Option.some.inj (Tryz.func4.symm.trans hfn)).symm
   exact ⟨by kernel_rfl, fun j t ht => by
    rw [Tryz.params4] at ht
    have hm : t ∈ [25, 25, 3] := by simpa using Array.mem_of_getElem? ht
    have hall : ([25, 25, 3].all fun u => !Tryz.prog.wantsStandIn u) = true := by kernel_rfl
    exact (show Tryz.prog.wantsStandIn t = false by simpa using List.all_eq_true.1 hall t hm)⟩)
  (by kernel_rfl)
#print axioms relayChecks_holds
end Go.Proofs.YtjnfoimeajajeaaGreatDoor
end
