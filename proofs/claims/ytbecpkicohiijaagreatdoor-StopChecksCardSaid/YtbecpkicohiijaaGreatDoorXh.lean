/-
  Lemmas: Sh. No condition.
-/
import Derived.Test.YtbecpkicohiijaaGreatDoorZg
section
namespace Go.Proofs.Tryz.Kn
open Go Go.CE Go.PE
set_option maxRecDepth 10000
noncomputable def T8 (O : Orc) (x0 x1 x2 s0 s1 s2 s3 : DV) : Option DA :=
 b1 (O 36 [SA ([x0, x1, x2]), SA ([s0, s1, s2, s3])]) fun v43 =>
 b1 (O 37 [SA ([x0, x1, x2]), SA ([s0, s1, s2, s3])]) fun v44 =>
 bindD (pBin .neq v44 v43) fun v45 =>
 ifB v45
 (some (S1 (.bool false)))
 (bindD (pBin .eql v43 (I6 0)) fun v46 =>
 ifB v46
 (some (S1 (.bool true)))
 (bT [some 2, none] (O 27 [SA ([x0, x1, x2]), SA ([s0, s1, s2, s3])]) fun t47 =>
 bT [some 2, none] (O 28 [SA ([x0, x1, x2]), SA ([s0, s1, s2, s3])]) fun t48 =>
 bT [some 2, none] (O 29 [SA ([x0, x1, x2]), SA ([s0, s1, s2, s3]), SA ([(I6 (-1)), (I6 0)])]) fun t49 =>
 bT [none, none] (O 30 [SA ([x0, x1, x2]), SA ([s0, s1, s2, s3])]) fun t50 =>
 bT [none, none] (O 20 [SA ([x0, x1, x2]), SA ([s0, s1, s2, s3])]) fun t51 =>
 bT [some 4, none] (O 34 [SA ([x0, x1, x2]), SA ([s0, s1, s2, s3]), SA ([(I6 1), (I6 0)])]) fun t52 =>
 bindD (eqDs [1, 1] [(atD (dsA (dsAt t47 0)) 0), (atD (dsA (dsAt t47 0)) 1)] [(U64 0), (U64 0)]) fun q53 =>
 ifB (.bool q53)
 (bindD (eqDs [1, 1] [(atD (dsA (dsAt t48 0)) 0), (atD (dsA (dsAt t48 0)) 1)] [(atD (dsA (dsAt t47 0)) 0), (atD (dsA (dsAt t47 0)) 1)]) fun q54 =>
 ifB (.bool q54)
 (bindD (eqDs [1, 1] [(atD (dsA (dsAt t49 0)) 0), (atD (dsA (dsAt t49 0)) 1)] [(atD (dsA (dsAt t47 0)) 0), (atD (dsA (dsAt t47 0)) 1)]) fun q55 =>
 ifB (.bool q55)
 (bindD (pLen (dsO (dsAt t50 0))) fun v56 =>
 bindD (pBin .eql v56 (I6 0)) fun v57 =>
 ifB v57
 (bindD (pNot (dsO (dsAt t51 0))) fun v58 =>
 ifB v58
 (b1 (O 25 [SA ([(atD (dsA (dsAt t52 0)) 0), (atD (dsA (dsAt t52 0)) 1), (atD (dsA (dsAt t52 0)) 2), (atD (dsA (dsAt t52 0)) 3)])]) fun v59 =>
 ifB v59
 (bindD (pBin .eql (dsO (dsAt t47 1)) v43) fun v60 =>
 ifB v60
 (bindD (pBin .eql (dsO (dsAt t48 1)) v43) fun v61 =>
 ifB v61
 (bindD (pBin .eql (dsO (dsAt t49 1)) v43) fun v62 =>
 ifB v62
 (bindD (pBin .eql (dsO (dsAt t50 1)) v43) fun v63 =>
 ifB v63
 (bindD (pBin .eql (dsO (dsAt t51 1)) v43) fun v64 =>
 ifB v64
 (bindD (pBin .eql (dsO (dsAt t52 1)) v43) fun v65 =>
 some (S1 v65))
 (some (S1 (.bool false))))
 (some (S1 (.bool false))))
 (some (S1 (.bool false))))
 (some (S1 (.bool false))))
 (some (S1 (.bool false))))
 (some (S1 (.bool false))))
 (some (S1 (.bool false))))
 (some (S1 (.bool false))))
 (some (S1 (.bool false))))
 (some (S1 (.bool false))))
 (some (S1 (.bool false)))))
noncomputable def Q8 (O : Orc) (L37 : List DV) (M38 : List OC) (a1_0 a1_1 a1_2 a1_3 a2 : DV) : Option DA :=
  bindD (pBin .rem a2 (U8 8)) fun v40 =>
  bindD (pBin .eql v40 (U8 0)) fun v41 =>
  ifB v41
  (bindD (pBin .sub (nthD L37 0) (I6 1)) fun v42 => T8 O (mkL 6 (nthM M38 0)) (nthD L37 0) v42 a1_0 a1_1 a1_2 a1_3)
  (bindD (pBin .eql v40 (U8 1)) fun v66 =>
  ifB v66
  (bindD (mkN 80 (I6 61) (I6 61)) fun n67 => T8 O (.lst 6 (List.replicate n67 [(.str ⟨#[]⟩), (.str ⟨#[]⟩), (I6 0), (I6 0), (I6 0), .nils])) (nthD L37 0) (nthD L37 1) a1_0 a1_1 a1_2 a1_3)
  (bindD (pBin .eql v40 (U8 2)) fun v91 =>
  ifB v91
  (bindD (pIdxO (nthM M38 0) (I6 1)) fun n92 =>
   bindD (setO 6 (nthM M38 0) n92 0 [(.str ⟨#[]⟩)]) fun w93 => T8 O (mkL 6 w93) (nthD L37 0) (nthD L37 1) a1_0 a1_1 a1_2 a1_3)
  (T8 O (mkL 6 (nthM M38 0)) (nthD L37 0) (nthD L37 1) a1_0 a1_1 a1_2 a1_3)))
noncomputable def R8 (O : Orc) (a0_0 a0_1 a0_2 a0_3 a0_4 a0_5 a0_6 a0_7 a0_8 a0_9 a0_10 a1_0 a1_1 a1_2 a1_3 a2 : DV) : Option DA :=
 b1 (O 9 []) fun v0 =>
 bindD (pNot v0) fun v1 =>
 ifB v1
 (b1 (O 9 []) fun v2 => some (S1 v2))
 (b1 (O 10 [SA ([a1_0, a1_1, a1_2, a1_3])]) fun v3 =>
 bindD (pNot v3) fun v4 =>
 ifB v4
 (b1 (O 9 []) fun v5 => some (S1 v5))
 (bindD (pBin .rem a0_9 (U8 24)) fun v6 =>
 bindD (pConv .i64 v6) fun v7 =>
 bindD (pBin .add (I6 36) v7) fun v8 =>
 bindD (pBin .rem a0_10 (U8 16)) fun v9 =>
 bindD (pConv .i64 v9) fun v10 =>
 bindD (pBin .add v8 v10) fun v11 =>
 loopR (ploop (F11_6 O a0_0 a0_3 a0_6 a0_1 a0_4 a0_7 a0_2 a0_5 a0_8) [(I6 0), v8, v11] [none])
 (fun i39 L37 M38 => bif Nat.beq i39 0 then Q8 O L37 M38 a1_0 a1_1 a1_2 a1_3 a2 else none)
 (fun _ _ => none)))
theorem p8_eq (O : Orc) (a0_0 a0_1 a0_2 a0_3 a0_4 a0_5 a0_6 a0_7 a0_8 a0_9 a0_10 a1_0 a1_1 a1_2 a1_3 a2 : DV) : K8.P8 O a0_0 a0_1 a0_2 a0_3 a0_4 a0_5 a0_6 a0_7 a0_8 a0_9 a0_10 a1_0 a1_1 a1_2 a1_3 a2 = R8 O a0_0 a0_1 a0_2 a0_3 a0_4 a0_5 a0_6 a0_7 a0_8 a0_9 a0_10 a1_0 a1_1 a1_2 a1_3 a2 := by kernel_rfl
noncomputable def D8 (k : Nat) : Orc := fun g args => bif Nat.beq g 8 then pFun prog (D k) K8.tabI (inl prog (D k) K8.tabI K8.anI8 noRed 2) K8.an8 8 args else D k g args
theorem tab8_not : ∀ g, K8.tabI g = true → ∀ s ∈ bSums, Nat.beq g s.g = false := by
 intro g hg
 refine bSums_other ?_
 cases h : Nat.beq g 9 with
 | false => rfl
 | true =>
  have := Nat.eq_of_beq_eq_true h
  subst this
  cases hg
theorem D8_ok (k : Nat) : OrcOk (D8 k) (fun n => evCallS (cCode prog) (cFs (cProg prog)) bSums n) := by
 intro g args res e
 unfold D8 at e
 cases h : Nat.beq g 8 with
 | false => rw [h] at e; exact D_ok k g args res e
 | true =>
  rw [h, cond_true] at e
  obtain rfl : g = 8 := Nat.eq_of_beq_eq_true h
  exact pFun_ok (tab := K8.tabI) (an := K8.an8) (D_ok k) (inl_ok noRed_ok (D_ok k) tab8_not 2) (bSums_other rfl) e
theorem d8_at (k : Nat) (args : List DA) : D8 k 8 args = pFun prog (D k) K8.tabI (inl prog (D k) K8.tabI K8.anI8 noRed 2) K8.an8 8 args := by
 unfold D8
 rw [show Nat.beq 8 8 = true from rfl, cond_true]
theorem D8_form (k : Nat) (a0_0 a0_1 a0_2 a0_3 a0_4 a0_5 a0_6 a0_7 a0_8 a0_9 a0_10 a1_0 a1_1 a1_2 a1_3 a2 : DV) : D8 k 8 [SA ([a0_0, a0_1, a0_2, a0_3, a0_4, a0_5, a0_6, a0_7, a0_8, a0_9, a0_10]), SA ([a1_0, a1_1, a1_2, a1_3]), S1 a2] = R8 (D k) a0_0 a0_1 a0_2 a0_3 a0_4 a0_5 a0_6 a0_7 a0_8 a0_9 a0_10 a1_0 a1_1 a1_2 a1_3 a2 :=
 (d8_at k _).trans ((K8.p8 (D k) a0_0 a0_1 a0_2 a0_3 a0_4 a0_5 a0_6 a0_7 a0_8 a0_9 a0_10 a1_0 a1_1 a1_2 a1_3 a2).trans (p8_eq _ _ _ _ _ _ _ _ _ _ _ _ _ _ _ _ _))
end Go.Proofs.Tryz.Kn
end
