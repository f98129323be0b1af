/-
  The functions of the seat's laws in their symbolic form. Written by a program (wip/ce/prk.sh). No condition.
-/
import Derived.Test.YtpoejpijhnankaaGreatKn
import Derived.Test.YtpoejpijhnankaaGreatCEx
namespace Go.Proofs.Tryz.Kn
open Go Go.CE

/-- bombarde/crescendo.entry -/

noncomputable def M17 (call : Caller) (f : Nat) (a0 a1 : AVal) (h0 : AHeap) : Res :=
  bindR (vBox a0 h0) fun v1 h2 =>
  bindR (vFoff v1 0 h2) fun v3 h4 =>
  bindR (vLoad none v3 h4) fun v5 h6 =>
  bindR (vLenL v5 h6) fun v7 h8 =>
  bindR (vInt evLt a1 v7 h8) fun v9 h10 =>
  ifK v9
  (bindR (vFoff v1 0 h10) fun v11 h12 =>
  bindR (vLoad none v11 h12) fun v13 h14 =>
  bindR (vIxs 1 v13 a1 h14) fun v15 h16 =>
  bindR (vLoad none v15 h16) fun v17 h18 =>
  evRes h18 (consV (resV v17) (some [])))
  (evRes h10 (consV (resV (.s (.one (.int .u64 (.ofNat 0))))) (some [])))
theorem m17 (call : Caller) (f : Nat) (a0 a1 : AVal) (h0 : AHeap) : kFun Tryz.prog 17 call f [a0, a1] h0 = M17 call f a0 a1 h0 := by kernel_rfl

/-- bombarde/bombardelaw31.entry -/

noncomputable def M10 (call : Caller) (f : Nat) (a0 a1 : AVal) (h0 : AHeap) : Res :=
  bindR (vBox a0 h0) fun v1 h2 =>
  bindR (vFoff v1 0 h2) fun v3 h4 =>
  bindR (vLoad none v3 h4) fun v5 h6 =>
  bindR (vLenL v5 h6) fun v7 h8 =>
  bindR (vInt evLt a1 v7 h8) fun v9 h10 =>
  ifK v9
  (bindR (vFoff v1 0 h10) fun v11 h12 =>
  bindR (vLoad none v11 h12) fun v13 h14 =>
  bindR (vIxs 1 v13 a1 h14) fun v15 h16 =>
  bindR (vLoad none v15 h16) fun v17 h18 =>
  evRes h18 (consV (resV v17) (some [])))
  (evRes h10 (consV (resV (.s (.one (.int .u64 (.ofNat 0))))) (some [])))
theorem m10 (call : Caller) (f : Nat) (a0 a1 : AVal) (h0 : AHeap) : kFun Tryz.prog 10 call f [a0, a1] h0 = M10 call f a0 a1 h0 := by kernel_rfl

/-- bombarde/crescendo.Within -/
noncomputable def L6_0 (call : Caller) (f : Nat) (v9 : AVal) (v7 : AVal) (v3 : AVal) (y11 : List AVal) (h12 : AHeap) : Option (RExit × List AVal × AHeap) :=
  bindR (vInt evLt (nthA y11 14) v9 h12) fun v13 h14 =>
  ifK v13
  (bindR (vIxs 1 v7 (nthA y11 14) h14) fun v15 h16 =>
  bindR (vLoad none v15 h16) fun v17 h18 =>
  bindR (vLoad (some 3) v3 h18) fun v19 h20 =>
  bindR (call (.inl 17) [v19, (nthA y11 14)] h20) fun v21 h22 =>
  bindR (vInt evAndNot v17 v21 h22) fun v23 h24 =>
  bindR (vInt evNe v23 (.s (.one (.int .u64 (.ofNat 0)))) h24) fun v25 h26 =>
  ifK v25
  (some (.ret, [v13, (nthA y11 14), v15, v17, (nthA y11 14), v17, v17, v19, (nthA y11 14), v21, v23, v25, (.s (.one (.bool false))), (nthA y11 13), (nthA y11 14)], h26))
  (bindR (vInt evAdd (nthA y11 14) (.s (.one (.int .i64 (.ofNat 1)))) h26) fun v27 h28 =>
  some (.normal, [v13, (nthA y11 14), v15, v17, (nthA y11 14), v17, v17, v19, (nthA y11 14), v21, v23, v25, (nthA y11 12), v27, v27], h28)))
  (some (.exit 0, [v13, (nthA y11 1), (nthA y11 2), (nthA y11 3), (nthA y11 4), (nthA y11 5), (nthA y11 6), (nthA y11 7), (nthA y11 8), (nthA y11 9), (nthA y11 10), (nthA y11 11), (nthA y11 12), (nthA y11 13), (nthA y11 14)], h14))
noncomputable def M6 (call : Caller) (f : Nat) (a0 a1 : AVal) (h0 : AHeap) : Res :=
  bindR (vBox a0 h0) fun v1 h2 =>
  bindR (vBox a1 h2) fun v3 h4 =>
  bindR (vFoff v1 0 h4) fun v5 h6 =>
  bindR (vLoad none v5 h6) fun v7 h8 =>
  bindR (vLenL v7 h8) fun v9 h10 =>
  bindX (loopL (L6_0 call f v9 v7 v3) f [aundef, aundef, aundef, aundef, aundef, aundef, aundef, aundef, aundef, aundef, aundef, aundef, (.s (.one (.bool false))), aundef, (.s (.one (.int .i64 (.ofNat 0))))] h10) (fun n31 y29 h30 =>
  bif Nat.beq n31 0 then
  bindR (vFoff v1 1 h30) fun v32 h33 =>
  bindR (vLoad none v32 h33) fun v34 h35 =>
  bindR (vFoff v3 1 h35) fun v36 h37 =>
  bindR (vLoad none v36 h37) fun v38 h39 =>
  bindR (vInt evAndNot v34 v38 h39) fun v40 h41 =>
  bindR (vInt evEq v40 (.s (.one (.int .u64 (.ofNat 0)))) h41) fun v42 h43 =>
  bindR (gK v42 true h43 (vFoff v1 2 h43)) fun v44 h45 =>
  bindR (gK v42 true h45 (vLoad none v44 h45)) fun v46 h47 =>
  bindR (gK v42 true h47 (vFoff v3 2 h47)) fun v48 h49 =>
  bindR (gK v42 true h49 (vLoad none v48 h49)) fun v50 h51 =>
  bindR (gK v42 true h51 (vInt evAndNot v46 v50 h51)) fun v52 h53 =>
  bindR (gK v42 true h53 (vInt evEq v52 (.s (.one (.int .u64 (.ofNat 0)))) h53)) fun v54 h55 =>
  bindR (vPick v42 v54 (.s (.one (.bool false))) h55) fun v56 h57 =>
  evRes h57 (consV (resV v56) (some []))
  else none)
  (fun y58 h59 =>
  evRes h59 (consV (resV (nthA y58 12)) (some [])))
theorem m6 (call : Caller) (f : Nat) (a0 a1 : AVal) (h0 : AHeap) : kFun Tryz.prog 6 call f [a0, a1] h0 = M6 call f a0 a1 h0 := by kernel_rfl

/-- bombarde/bombardelaw31.within -/
noncomputable def L7_0 (call : Caller) (f : Nat) (v1 : AVal) (v3 : AVal) (y5 : List AVal) (h6 : AHeap) : Option (RExit × List AVal × AHeap) :=
  bindR (vFoff v1 0 h6) fun v7 h8 =>
  bindR (vLoad none v7 h8) fun v9 h10 =>
  bindR (vLenL v9 h10) fun v11 h12 =>
  bindR (vInt evLt (nthA y5 18) v11 h12) fun v13 h14 =>
  ifK v13
  (bindR (vFoff v1 0 h14) fun v15 h16 =>
  bindR (vLoad none v15 h14) fun v17 h18 =>
  bindR (vIxs 1 v17 (nthA y5 18) h14) fun v19 h20 =>
  bindR (vLoad none v19 h14) fun v21 h22 =>
  bindR (vLoad (some 3) v3 h14) fun v23 h24 =>
  bindR (call (.inl 10) [v23, (nthA y5 18)] h14) fun v25 h26 =>
  bindR (vInt evAndNot v21 v25 h26) fun v27 h28 =>
  bindR (vInt evNe v27 (.s (.one (.int .u64 (.ofNat 0)))) h26) fun v29 h30 =>
  bif ((same1 (vFoff v1 0 h14) v15 && (same1 (vFoff v1 0 h26) v15 && true)) && ((same1 (vLoad none v15 h14) v17 && (same1 (vLoad none v15 h26) v17 && true)) && ((same1 (some ((nthA y5 18), h14)) (nthA y5 18) && (same1 (some ((nthA y5 18), h26)) (nthA y5 18) && true)) && ((same1 (vIxs 1 v17 (nthA y5 18) h14) v19 && (same1 (vIxs 1 v17 (nthA y5 18) h26) v19 && true)) && ((same1 (vLoad none v19 h14) v21 && (same1 (vLoad none v19 h26) v21 && true)) && true))))) then
  ifK v29
  (some (.ret, [(nthA y5 18), v7, v9, v11, v13, v15, v17, (nthA y5 18), v19, v21, v23, (nthA y5 18), v25, v27, v29, (.s (.one (.bool false))), (nthA y5 16), (nthA y5 17), (nthA y5 18)], h26))
  (bindR (vInt evAdd (nthA y5 18) (.s (.one (.int .i64 (.ofNat 1)))) h26) fun v31 h32 =>
  some (.normal, [(nthA y5 18), v7, v9, v11, v13, v15, v17, (nthA y5 18), v19, v21, v23, (nthA y5 18), v25, v27, v29, (nthA y5 15), (nthA y5 18), v31, v31], h32))
  else none)
  (some (.exit 0, [(nthA y5 18), v7, v9, v11, v13, (nthA y5 5), (nthA y5 6), (nthA y5 7), (nthA y5 8), (nthA y5 9), (nthA y5 10), (nthA y5 11), (nthA y5 12), (nthA y5 13), (nthA y5 14), (nthA y5 15), (nthA y5 16), (nthA y5 17), (nthA y5 18)], h14))
noncomputable def M7 (call : Caller) (f : Nat) (a0 a1 : AVal) (h0 : AHeap) : Res :=
  bindR (vBox a0 h0) fun v1 h2 =>
  bindR (vBox a1 h2) fun v3 h4 =>
  bindX (loopL (L7_0 call f v1 v3) f [aundef, aundef, aundef, aundef, aundef, aundef, aundef, aundef, aundef, aundef, aundef, aundef, aundef, aundef, aundef, (.s (.one (.bool false))), aundef, aundef, (.s (.one (.int .i64 (.ofNat 0))))] h4) (fun n35 y33 h34 =>
  bif Nat.beq n35 0 then
  bindR (vFoff v1 1 h34) fun v36 h37 =>
  bindR (vLoad none v36 h37) fun v38 h39 =>
  bindR (vFoff v3 1 h39) fun v40 h41 =>
  bindR (vLoad none v40 h41) fun v42 h43 =>
  bindR (vInt evAndNot v38 v42 h43) fun v44 h45 =>
  bindR (vInt evEq v44 (.s (.one (.int .u64 (.ofNat 0)))) h45) fun v46 h47 =>
  bindR (gK v46 true h47 (vFoff v1 2 h47)) fun v48 h49 =>
  bindR (gK v46 true h49 (vLoad none v48 h49)) fun v50 h51 =>
  bindR (gK v46 true h51 (vFoff v3 2 h51)) fun v52 h53 =>
  bindR (gK v46 true h53 (vLoad none v52 h53)) fun v54 h55 =>
  bindR (gK v46 true h55 (vInt evAndNot v50 v54 h55)) fun v56 h57 =>
  bindR (gK v46 true h57 (vInt evEq v56 (.s (.one (.int .u64 (.ofNat 0)))) h57)) fun v58 h59 =>
  bindR (vPick v46 v58 (.s (.one (.bool false))) h59) fun v60 h61 =>
  evRes h61 (consV (resV v60) (some []))
  else none)
  (fun y62 h63 =>
  evRes h63 (consV (resV (nthA y62 15)) (some [])))
theorem m7 (call : Caller) (f : Nat) (a0 a1 : AVal) (h0 : AHeap) : kFun Tryz.prog 7 call f [a0, a1] h0 = M7 call f a0 a1 h0 := by kernel_rfl

/-- bombarde/crescendo.Both -/
noncomputable def L5_0 (call : Caller) (f : Nat) (v45 : AVal) (v29 : AVal) (v1 : AVal) (v3 : AVal) (y47 : List AVal) (h48 : AHeap) : Option (RExit × List AVal × AHeap) :=
  bindR (vInt evLt (nthA y47 16) v45 h48) fun v49 h50 =>
  ifK v49
  (bindR (vFoff v29 0 h50) fun v51 h52 =>
  bindR (vLoad none v51 h50) fun v53 h54 =>
  bindR (vLoad (some 3) v1 h50) fun v55 h56 =>
  bindR (call (.inl 17) [v55, (nthA y47 16)] h50) fun v57 h58 =>
  bindR (vLoad (some 3) v3 h58) fun v59 h60 =>
  bindR (call (.inl 17) [v59, (nthA y47 16)] h58) fun v61 h62 =>
  bindR (vInt evOr v57 v61 h62) fun v63 h64 =>
  bindR (vBslice 1 1 [.int .u64 (.ofNat 0)] [(0, 1, v63)] h62) fun v65 h66 =>
  bindR (vAppend false 1 8 v53 v65 h66) fun v67 h68 =>
  bindR (vFoff v29 0 h68) fun v69 h70 =>
  bindR (vStore 1 v69 v67 h68) fun v71 h72 =>
  bif ((same1 (vFoff v29 0 h50) v51 && (same1 (vFoff v29 0 h58) v51 && (same1 (vFoff v29 0 h62) v51 && (same1 (vFoff v29 0 h66) v51 && true)))) && ((same1 (vLoad none v51 h50) v53 && (same1 (vLoad none v51 h58) v53 && (same1 (vLoad none v51 h62) v53 && (same1 (vLoad none v51 h66) v53 && true)))) && ((same1 (vLoad (some 3) v3 h50) v59 && (same1 (vLoad (some 3) v3 h58) v59 && true)) && ((same1 (some ((nthA y47 16), h50)) (nthA y47 16) && (same1 (some ((nthA y47 16), h58)) (nthA y47 16) && true)) && true)))) then
  bindR (vInt evAdd (nthA y47 16) (.s (.one (.int .i64 (.ofNat 1)))) h72) fun v73 h74 =>
  some (.normal, [v49, (nthA y47 16), (nthA y47 16), v51, v53, v55, (nthA y47 16), v57, v59, (nthA y47 16), v61, v63, v65, v67, v69, v73, v73], h74)
  else none)
  (some (.exit 0, [v49, (nthA y47 1), (nthA y47 2), (nthA y47 3), (nthA y47 4), (nthA y47 5), (nthA y47 6), (nthA y47 7), (nthA y47 8), (nthA y47 9), (nthA y47 10), (nthA y47 11), (nthA y47 12), (nthA y47 13), (nthA y47 14), (nthA y47 15), (nthA y47 16)], h50))
noncomputable def M5 (call : Caller) (f : Nat) (a0 a1 : AVal) (h0 : AHeap) : Res :=
  bindR (vBox a0 h0) fun v1 h2 =>
  bindR (vBox a1 h2) fun v3 h4 =>
  bindR (vAlloc [.nils, .int .u64 (.ofNat 0), .int .u64 (.ofNat 0)] h4) fun v5 h6 =>
  bindR (vFoff v1 1 h6) fun v7 h8 =>
  bindR (vLoad none v7 h8) fun v9 h10 =>
  bindR (vFoff v3 1 h10) fun v11 h12 =>
  bindR (vLoad none v11 h12) fun v13 h14 =>
  bindR (vInt evOr v9 v13 h14) fun v15 h16 =>
  bindR (vFoff v1 2 h16) fun v17 h18 =>
  bindR (vLoad none v17 h18) fun v19 h20 =>
  bindR (vFoff v3 2 h20) fun v21 h22 =>
  bindR (vLoad none v21 h22) fun v23 h24 =>
  bindR (vInt evOr v19 v23 h24) fun v25 h26 =>
  bindR (vBuild [.nils, .int .u64 (.ofNat 0), .int .u64 (.ofNat 0)] [(1, 1, v15), (2, 1, v25)] h26) fun v27 h28 =>
  bindR (vAlloc [.nils, .int .u64 (.ofNat 0), .int .u64 (.ofNat 0)] h28) fun v29 h30 =>
  bindR (vStore 3 v29 v27 h30) fun v31 h32 =>
  bindR (vFoff v1 0 h32) fun v33 h34 =>
  bindR (vLoad none v33 h34) fun v35 h36 =>
  bindR (vLenL v35 h36) fun v37 h38 =>
  bindR (vFoff v3 0 h38) fun v39 h40 =>
  bindR (vLoad none v39 h40) fun v41 h42 =>
  bindR (vLenL v41 h42) fun v43 h44 =>
  bindR (vMinmax true v37 [v43] h44) fun v45 h46 =>
  bindX (loopL (L5_0 call f v45 v29 v1 v3) f [aundef, aundef, aundef, aundef, aundef, aundef, aundef, aundef, aundef, aundef, aundef, aundef, aundef, aundef, aundef, aundef, (.s (.one (.int .i64 (.ofNat 0))))] h46) (fun n77 y75 h76 =>
  bif Nat.beq n77 0 then
  bindR (vLoad (some 3) v29 h76) fun v78 h79 =>
  bindR (vStore 3 v5 v78 h79) fun v80 h81 =>
  evRes h81 (consV (resP (some 3) v5 h81) (some []))
  else none)
  (fun y82 h83 =>
  evRes h83 (consV (resP (some 3) v5 h83) (some [])))
theorem m5 (call : Caller) (f : Nat) (a0 a1 : AVal) (h0 : AHeap) : kFun Tryz.prog 5 call f [a0, a1] h0 = M5 call f a0 a1 h0 := by kernel_rfl

/-- bombarde/crescendo.Size -/
noncomputable def L8_0 (call : Caller) (f : Nat) (v21 : AVal) (v19 : AVal) (y23 : List AVal) (h24 : AHeap) : Option (RExit × List AVal × AHeap) :=
  bindR (vInt evLt (nthA y23 10) v21 h24) fun v25 h26 =>
  ifK v25
  (bindR (vIxs 1 v19 (nthA y23 10) h26) fun v27 h28 =>
  bindR (vLoad none v27 h28) fun v29 h30 =>
  bindR (call (.inl 18) [v29] h30) fun v31 h32 =>
  bindR (vInt evAdd (nthA y23 8) v31 h32) fun v33 h34 =>
  bindR (vInt evAdd (nthA y23 10) (.s (.one (.int .i64 (.ofNat 1)))) h34) fun v35 h36 =>
  some (.normal, [v25, v27, v29, v29, (nthA y23 8), v29, v31, v33, v33, v35, v35], h36))
  (some (.exit 0, [v25, (nthA y23 1), (nthA y23 2), (nthA y23 3), (nthA y23 4), (nthA y23 5), (nthA y23 6), (nthA y23 7), (nthA y23 8), (nthA y23 9), (nthA y23 10)], h26))
noncomputable def M8 (call : Caller) (f : Nat) (a0 : AVal) (h0 : AHeap) : Res :=
  bindR (vBox a0 h0) fun v1 h2 =>
  bindR (vFoff v1 1 h2) fun v3 h4 =>
  bindR (vLoad none v3 h2) fun v5 h6 =>
  bindR (call (.inl 18) [v5] h2) fun v7 h8 =>
  bindR (vFoff v1 2 h8) fun v9 h10 =>
  bindR (vLoad none v9 h8) fun v11 h12 =>
  bindR (call (.inl 18) [v11] h8) fun v13 h14 =>
  bindR (vInt evAdd v7 v13 h14) fun v15 h16 =>
  bif ((same1 (vFoff v1 2 h2) v9 && (same1 (vFoff v1 2 h8) v9 && true)) && ((same1 (vLoad none v9 h2) v11 && (same1 (vLoad none v9 h8) v11 && true)) && true)) then
  bindR (vFoff v1 0 h14) fun v17 h18 =>
  bindR (vLoad none v17 h18) fun v19 h20 =>
  bindR (vLenL v19 h20) fun v21 h22 =>
  bindX (loopL (L8_0 call f v21 v19) f [aundef, aundef, aundef, aundef, aundef, aundef, aundef, aundef, v15, aundef, (.s (.one (.int .i64 (.ofNat 0))))] h22) (fun n39 y37 h38 =>
  bif Nat.beq n39 0 then
  evRes h38 (consV (resV (nthA y37 8)) (some []))
  else none)
  (fun y40 h41 =>
  evRes h41 (consV (resV (.s (.one (.int .i64 (.ofNat 0))))) (some [])))
  else none
theorem m8 (call : Caller) (f : Nat) (a0 : AVal) (h0 : AHeap) : kFun Tryz.prog 8 call f [a0] h0 = M8 call f a0 h0 := by kernel_rfl

/-- bombarde/bombardelaw31.size -/
noncomputable def L9_0 (call : Caller) (f : Nat) (v1 : AVal) (y17 : List AVal) (h18 : AHeap) : Option (RExit × List AVal × AHeap) :=
  bindR (vFoff v1 0 h18) fun v19 h20 =>
  bindR (vLoad none v19 h20) fun v21 h22 =>
  bindR (vLenL v21 h22) fun v23 h24 =>
  bindR (vInt evLt (nthA y17 16) v23 h24) fun v25 h26 =>
  ifK v25
  (bindR (vFoff v1 0 h26) fun v27 h28 =>
  bindR (vLoad none v27 h28) fun v29 h30 =>
  bindR (vIxs 1 v29 (nthA y17 16) h30) fun v31 h32 =>
  bindR (vLoad none v31 h32) fun v33 h34 =>
  bindR (call (.inl 19) [v33] h34) fun v35 h36 =>
  bindR (vInt evAdd (nthA y17 13) v35 h36) fun v37 h38 =>
  bindR (vInt evAdd (nthA y17 16) (.s (.one (.int .i64 (.ofNat 1)))) h38) fun v39 h40 =>
  some (.normal, [(nthA y17 16), v19, v21, v23, v25, (nthA y17 13), v27, v29, (nthA y17 16), v31, v33, v35, v37, v37, (nthA y17 16), v39, v39], h40))
  (some (.exit 0, [(nthA y17 16), v19, v21, v23, v25, (nthA y17 5), (nthA y17 6), (nthA y17 7), (nthA y17 8), (nthA y17 9), (nthA y17 10), (nthA y17 11), (nthA y17 12), (nthA y17 13), (nthA y17 14), (nthA y17 15), (nthA y17 16)], h26))
noncomputable def M9 (call : Caller) (f : Nat) (a0 : AVal) (h0 : AHeap) : Res :=
  bindR (vBox a0 h0) fun v1 h2 =>
  bindR (vFoff v1 1 h2) fun v3 h4 =>
  bindR (vLoad none v3 h2) fun v5 h6 =>
  bindR (call (.inl 19) [v5] h2) fun v7 h8 =>
  bindR (vFoff v1 2 h8) fun v9 h10 =>
  bindR (vLoad none v9 h8) fun v11 h12 =>
  bindR (call (.inl 19) [v11] h8) fun v13 h14 =>
  bindR (vInt evAdd v7 v13 h14) fun v15 h16 =>
  bif ((same1 (vFoff v1 2 h2) v9 && (same1 (vFoff v1 2 h8) v9 && true)) && ((same1 (vLoad none v9 h2) v11 && (same1 (vLoad none v9 h8) v11 && true)) && true)) then
  bindX (loopL (L9_0 call f v1) f [aundef, aundef, aundef, aundef, aundef, aundef, aundef, aundef, aundef, aundef, aundef, aundef, aundef, v15, aundef, aundef, (.s (.one (.int .i64 (.ofNat 0))))] h14) (fun n43 y41 h42 =>
  bif Nat.beq n43 0 then
  evRes h42 (consV (resV (nthA y41 13)) (some []))
  else none)
  (fun y44 h45 =>
  evRes h45 (consV (resV (.s (.one (.int .i64 (.ofNat 0))))) (some [])))
  else none
theorem m9 (call : Caller) (f : Nat) (a0 : AVal) (h0 : AHeap) : kFun Tryz.prog 9 call f [a0] h0 = M9 call f a0 h0 := by kernel_rfl

/-- math/bits.OnesCount64 -/

noncomputable def M18 (call : Caller) (f : Nat) (a0 : AVal) (h0 : AHeap) : Res :=
  bindR (vShift evShr a0 (.s (.one (.int .u64 (.ofNat 1)))) h0) fun v1 h2 =>
  bindR (vInt evAnd v1 (.s (.one (.int .u64 (.ofNat 6148914691236517205)))) h2) fun v3 h4 =>
  bindR (vInt evAnd a0 (.s (.one (.int .u64 (.ofNat 6148914691236517205)))) h4) fun v5 h6 =>
  bindR (vInt evAdd v3 v5 h6) fun v7 h8 =>
  bindR (vShift evShr v7 (.s (.one (.int .u64 (.ofNat 2)))) h8) fun v9 h10 =>
  bindR (vInt evAnd v9 (.s (.one (.int .u64 (.ofNat 3689348814741910323)))) h10) fun v11 h12 =>
  bindR (vInt evAnd v7 (.s (.one (.int .u64 (.ofNat 3689348814741910323)))) h12) fun v13 h14 =>
  bindR (vInt evAdd v11 v13 h14) fun v15 h16 =>
  bindR (vShift evShr v15 (.s (.one (.int .u64 (.ofNat 4)))) h16) fun v17 h18 =>
  bindR (vInt evAdd v17 v15 h18) fun v19 h20 =>
  bindR (vInt evAnd v19 (.s (.one (.int .u64 (.ofNat 1085102592571150095)))) h20) fun v21 h22 =>
  bindR (vShift evShr v21 (.s (.one (.int .u64 (.ofNat 8)))) h22) fun v23 h24 =>
  bindR (vInt evAdd v21 v23 h24) fun v25 h26 =>
  bindR (vShift evShr v25 (.s (.one (.int .u64 (.ofNat 16)))) h26) fun v27 h28 =>
  bindR (vInt evAdd v25 v27 h28) fun v29 h30 =>
  bindR (vShift evShr v29 (.s (.one (.int .u64 (.ofNat 32)))) h30) fun v31 h32 =>
  bindR (vInt evAdd v29 v31 h32) fun v33 h34 =>
  bindR (vConv .i64 v33 h34) fun v35 h36 =>
  bindR (vInt evAnd v35 (.s (.one (.int .i64 (.ofNat 127)))) h36) fun v37 h38 =>
  evRes h38 (consV (resV v37) (some []))
theorem m18 (call : Caller) (f : Nat) (a0 : AVal) (h0 : AHeap) : kFun Tryz.prog 18 call f [a0] h0 = M18 call f a0 h0 := by kernel_rfl

/-- bombarde/bombardelaw31.count -/
noncomputable def J19_0 (call : Caller) (f : Nat) (y1 : List AVal) (v3 : AVal) (w6 : AVal) (w7 : AVal) (w8 : AVal) (w9 : AVal) (w10 : AVal) (w11 : AVal) (w12 : AVal) (w13 : AVal) (h5 : AHeap) : Option (RExit × List AVal × AHeap) :=
  bindR (vInt evAdd (nthA y1 12) (.s (.one (.int .i64 (.ofNat 1)))) h5) fun v14 h15 =>
  some (.normal, [(nthA y1 12), v3, w6, w7, w8, w9, w10, w11, w12, w13, (nthA y1 12), v14, v14], h15)
noncomputable def L19_1 (call : Caller) (f : Nat) (a0 : AVal) (y1 : List AVal) (h2 : AHeap) : Option (RExit × List AVal × AHeap) :=
  bindR (vInt evLt (nthA y1 12) (.s (.one (.int .i64 (.ofNat 64)))) h2) fun v3 h4 =>
  ifK v3
  (bindR (vShift evShr a0 (nthA y1 12) h4) fun v16 h17 =>
  bindR (vInt evAnd v16 (.s (.one (.int .u64 (.ofNat 1)))) h17) fun v18 h19 =>
  bindR (vInt evEq v18 (.s (.one (.int .u64 (.ofNat 1)))) h19) fun v20 h21 =>
  ifK v20
  (bindR (vInt evAdd (nthA y1 9) (.s (.one (.int .i64 (.ofNat 1)))) h21) fun v22 h23 =>
  (J19_0 call f y1 v3 a0 (nthA y1 12) v16 v18 v20 (nthA y1 9) v22 v22 h23))
  ((J19_0 call f y1 v3 a0 (nthA y1 12) v16 v18 v20 (nthA y1 7) (nthA y1 8) (nthA y1 9) h21)))
  (some (.exit 0, [(nthA y1 12), v3, (nthA y1 2), (nthA y1 3), (nthA y1 4), (nthA y1 5), (nthA y1 6), (nthA y1 7), (nthA y1 8), (nthA y1 9), (nthA y1 10), (nthA y1 11), (nthA y1 12)], h4))
noncomputable def M19 (call : Caller) (f : Nat) (a0 : AVal) (h0 : AHeap) : Res :=
  bindX (loopL (L19_1 call f a0) f [aundef, aundef, aundef, aundef, aundef, aundef, aundef, aundef, aundef, (.s (.one (.int .i64 (.ofNat 0)))), aundef, aundef, (.s (.one (.int .i64 (.ofNat 0))))] h0) (fun n26 y24 h25 =>
  bif Nat.beq n26 0 then
  evRes h25 (consV (resV (nthA y24 9)) (some []))
  else none)
  (fun y27 h28 =>
  evRes h28 (consV (resV (.s (.one (.int .i64 (.ofNat 0))))) (some [])))
theorem m19 (call : Caller) (f : Nat) (a0 : AVal) (h0 : AHeap) : kFun Tryz.prog 19 call f [a0] h0 = M19 call f a0 h0 := by kernel_rfl

/-- bombarde/bombardelaw31.CrescendoBits -/
noncomputable def L3_0 (call : Caller) (f : Nat) (v37 : AVal) (v1 : AVal) (v3 : AVal) (y91 : List AVal) (h92 : AHeap) : Option (RExit × List AVal × AHeap) :=
  bindR (vFoff v37 0 h92) fun v93 h94 =>
  bindR (vLoad none v93 h94) fun v95 h96 =>
  bindR (vLenL v95 h96) fun v97 h98 =>
  bindR (vInt evLt (nthA y91 21) v97 h98) fun v99 h100 =>
  ifK v99
  (bindR (vFoff v37 0 h100) fun v101 h102 =>
  bindR (vLoad none v101 h100) fun v103 h104 =>
  bindR (vIxs 1 v103 (nthA y91 21) h100) fun v105 h106 =>
  bindR (vLoad none v105 h100) fun v107 h108 =>
  bindR (vLoad (some 3) v1 h100) fun v109 h110 =>
  bindR (call (.inl 10) [v109, (nthA y91 21)] h100) fun v111 h112 =>
  bindR (vLoad (some 3) v3 h112) fun v113 h114 =>
  bindR (call (.inl 10) [v113, (nthA y91 21)] h112) fun v115 h116 =>
  bindR (vInt evOr v111 v115 h116) fun v117 h118 =>
  bindR (vInt evNe v107 v117 h116) fun v119 h120 =>
  bif ((same1 (vFoff v37 0 h100) v101 && (same1 (vFoff v37 0 h112) v101 && (same1 (vFoff v37 0 h116) v101 && true))) && ((same1 (vLoad none v101 h100) v103 && (same1 (vLoad none v101 h112) v103 && (same1 (vLoad none v101 h116) v103 && true))) && ((same1 (some ((nthA y91 21), h100)) (nthA y91 21) && (same1 (some ((nthA y91 21), h112)) (nthA y91 21) && (same1 (some ((nthA y91 21), h116)) (nthA y91 21) && true))) && ((same1 (vIxs 1 v103 (nthA y91 21) h100) v105 && (same1 (vIxs 1 v103 (nthA y91 21) h112) v105 && (same1 (vIxs 1 v103 (nthA y91 21) h116) v105 && true))) && ((same1 (vLoad none v105 h100) v107 && (same1 (vLoad none v105 h112) v107 && (same1 (vLoad none v105 h116) v107 && true))) && ((same1 (vLoad (some 3) v3 h100) v113 && (same1 (vLoad (some 3) v3 h112) v113 && true)) && ((same1 (some ((nthA y91 21), h100)) (nthA y91 21) && (same1 (some ((nthA y91 21), h112)) (nthA y91 21) && true)) && true))))))) then
  ifK v119
  (some (.ret, [(nthA y91 21), v93, v95, v97, v99, v101, v103, (nthA y91 21), v105, v107, v109, (nthA y91 21), v111, v113, (nthA y91 21), v115, v117, v119, (.s (.one (.bool false))), (nthA y91 19), (nthA y91 20), (nthA y91 21)], h116))
  (bindR (vInt evAdd (nthA y91 21) (.s (.one (.int .i64 (.ofNat 1)))) h116) fun v121 h122 =>
  some (.normal, [(nthA y91 21), v93, v95, v97, v99, v101, v103, (nthA y91 21), v105, v107, v109, (nthA y91 21), v111, v113, (nthA y91 21), v115, v117, v119, (nthA y91 18), (nthA y91 21), v121, v121], h122))
  else none)
  (some (.exit 0, [(nthA y91 21), v93, v95, v97, v99, (nthA y91 5), (nthA y91 6), (nthA y91 7), (nthA y91 8), (nthA y91 9), (nthA y91 10), (nthA y91 11), (nthA y91 12), (nthA y91 13), (nthA y91 14), (nthA y91 15), (nthA y91 16), (nthA y91 17), (nthA y91 18), (nthA y91 19), (nthA y91 20), (nthA y91 21)], h100))
noncomputable def M3 (call : Caller) (f : Nat) (a0 a1 : AVal) (h0 : AHeap) : Res :=
  bindR (vBox a0 h0) fun v1 h2 =>
  bindR (vBox a1 h2) fun v3 h4 =>
  bindR (call (.inl 4) [] h4) fun v5 h6 =>
  bindR (vNot v5 h6) fun v7 h8 =>
  bindR (gK v7 false h8 (vFoff v1 0 h8)) fun v9 h10 =>
  bindR (gK v7 false h10 (vLoad none v9 h10)) fun v11 h12 =>
  bindR (gK v7 false h12 (vLenL v11 h12)) fun v13 h14 =>
  bindR (gK v7 false h14 (vInt evGt v13 (.s (.one (.int .i64 (.ofNat 10)))) h14)) fun v15 h16 =>
  bindR (vPick v7 (.s (.one (.bool true))) v15 h16) fun v17 h18 =>
  bindR (gK v17 false h18 (vFoff v3 0 h18)) fun v19 h20 =>
  bindR (gK v17 false h20 (vLoad none v19 h20)) fun v21 h22 =>
  bindR (gK v17 false h22 (vLenL v21 h22)) fun v23 h24 =>
  bindR (gK v17 false h24 (vInt evGt v23 (.s (.one (.int .i64 (.ofNat 10)))) h24)) fun v25 h26 =>
  bindR (vPick v17 (.s (.one (.bool true))) v25 h26) fun v27 h28 =>
  ifK v27
  (bindR (call (.inl 4) [] h28) fun v29 h30 =>
  evRes h30 (consV (resV v29) (some [])))
  (bindR (vLoad (some 3) v1 h28) fun v31 h32 =>
  bindR (vLoad (some 3) v3 h32) fun v33 h34 =>
  bindR (call (.inl 5) [v31, v33] h34) fun v35 h36 =>
  bindR (vAlloc [.nils, .int .u64 (.ofNat 0), .int .u64 (.ofNat 0)] h36) fun v37 h38 =>
  bindR (vStore 3 v37 v35 h38) fun v39 h40 =>
  bindR (vLoad (some 3) v1 h40) fun v41 h42 =>
  bindR (vLoad (some 3) v3 h40) fun v43 h44 =>
  bindR (call (.inl 6) [v41, v43] h40) fun v45 h46 =>
  bindR (vLoad (some 3) v1 h46) fun v47 h48 =>
  bindR (vLoad (some 3) v3 h46) fun v49 h50 =>
  bindR (call (.inl 7) [v47, v49] h46) fun v51 h52 =>
  bindR (vEq (.inl 0) true v45 v51 h52) fun v53 h54 =>
  bindR (gK v53 false h52 (vLoad (some 3) v1 h52)) fun v55 h56 =>
  bindR (gK v53 false h52 (call (.inl 8) [v55] h52)) fun v57 h58 =>
  bindR (gK v53 false h58 (vLoad (some 3) v1 h58)) fun v59 h60 =>
  bindR (gK v53 false h58 (call (.inl 9) [v59] h58)) fun v61 h62 =>
  bindR (gK v53 false h62 (vInt evNe v57 v61 h62)) fun v63 h64 =>
  bindR (vPick v53 (.s (.one (.bool true))) v63 h62) fun v65 h66 =>
  bindR (gK v65 false h62 (vFoff v37 0 h62)) fun v67 h68 =>
  bindR (gK v65 false h62 (vLoad none v67 h62)) fun v69 h70 =>
  bindR (gK v65 false h62 (vLenL v69 h62)) fun v71 h72 =>
  bindR (gK v65 false h62 (vFoff v1 0 h62)) fun v73 h74 =>
  bindR (gK v65 false h62 (vLoad none v73 h62)) fun v75 h76 =>
  bindR (gK v65 false h62 (vLenL v75 h62)) fun v77 h78 =>
  bindR (gK v65 false h62 (vFoff v3 0 h62)) fun v79 h80 =>
  bindR (gK v65 false h62 (vLoad none v79 h62)) fun v81 h82 =>
  bindR (gK v65 false h62 (vLenL v81 h62)) fun v83 h84 =>
  bindR (gK v65 false h62 (vMinmax true v77 [v83] h62)) fun v85 h86 =>
  bindR (gK v65 false h62 (vInt evNe v71 v85 h62)) fun v87 h88 =>
  bindR (vPick v65 (.s (.one (.bool true))) v87 h62) fun v89 h90 =>
  bif ((same1 (vLoad (some 3) v1 h40) v47 && (same1 (vLoad (some 3) v1 h46) v47 && true)) && ((same1 (vLoad (some 3) v3 h40) v49 && (same1 (vLoad (some 3) v3 h46) v49 && true)) && ((same1 (gK v53 false h52 (vLoad (some 3) v1 h52)) v59 && (same1 (gK v53 false h58 (vLoad (some 3) v1 h58)) v59 && true)) && true))) then
  ifK v89
  (evRes h62 (consV (resV (.s (.one (.bool false)))) (some [])))
  (bindX (loopL (L3_0 call f v37 v1 v3) f [aundef, aundef, aundef, aundef, aundef, aundef, aundef, aundef, aundef, aundef, aundef, aundef, aundef, aundef, aundef, aundef, aundef, aundef, (.s (.one (.bool false))), aundef, aundef, (.s (.one (.int .i64 (.ofNat 0))))] h62) (fun n125 y123 h124 =>
  bif Nat.beq n125 0 then
  bindR (vFoff v37 1 h124) fun v126 h127 =>
  bindR (vLoad none v126 h127) fun v128 h129 =>
  bindR (vFoff v1 1 h129) fun v130 h131 =>
  bindR (vLoad none v130 h131) fun v132 h133 =>
  bindR (vFoff v3 1 h133) fun v134 h135 =>
  bindR (vLoad none v134 h135) fun v136 h137 =>
  bindR (vInt evOr v132 v136 h137) fun v138 h139 =>
  bindR (vInt evEq v128 v138 h139) fun v140 h141 =>
  bindR (gK v140 true h141 (vFoff v37 2 h141)) fun v142 h143 =>
  bindR (gK v140 true h143 (vLoad none v142 h143)) fun v144 h145 =>
  bindR (gK v140 true h145 (vFoff v1 2 h145)) fun v146 h147 =>
  bindR (gK v140 true h147 (vLoad none v146 h147)) fun v148 h149 =>
  bindR (gK v140 true h149 (vFoff v3 2 h149)) fun v150 h151 =>
  bindR (gK v140 true h151 (vLoad none v150 h151)) fun v152 h153 =>
  bindR (gK v140 true h153 (vInt evOr v148 v152 h153)) fun v154 h155 =>
  bindR (gK v140 true h155 (vInt evEq v144 v154 h155)) fun v156 h157 =>
  bindR (vPick v140 v156 (.s (.one (.bool false))) h157) fun v158 h159 =>
  bindR (gK v158 true h159 (vLoad (some 3) v1 h159)) fun v160 h161 =>
  bindR (gK v158 true h161 (vLoad (some 3) v37 h161)) fun v162 h163 =>
  bindR (gK v158 true h163 (call (.inl 6) [v160, v162] h163)) fun v164 h165 =>
  bindR (vPick v158 v164 (.s (.one (.bool false))) h165) fun v166 h167 =>
  bindR (gK v166 true h167 (vLoad (some 3) v3 h167)) fun v168 h169 =>
  bindR (gK v166 true h169 (vLoad (some 3) v37 h169)) fun v170 h171 =>
  bindR (gK v166 true h171 (call (.inl 6) [v168, v170] h171)) fun v172 h173 =>
  bindR (vPick v166 v172 (.s (.one (.bool false))) h173) fun v174 h175 =>
  evRes h175 (consV (resV v174) (some []))
  else none)
  (fun y176 h177 =>
  evRes h177 (consV (resV (nthA y176 18)) (some []))))
  else none)
theorem m3 (call : Caller) (f : Nat) (a0 a1 : AVal) (h0 : AHeap) : kFun Tryz.prog 3 call f [a0, a1] h0 = M3 call f a0 a1 h0 := by kernel_rfl

end Go.Proofs.Tryz.Kn
