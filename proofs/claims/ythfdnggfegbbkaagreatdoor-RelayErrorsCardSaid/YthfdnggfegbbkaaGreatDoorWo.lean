/-
  Lemmas: Lp, Lf7. No condition.
-/
import Derived.Test.YthfdnggfegbbkaaGreatDoorUn
import Derived.Test.YthfdnggfegbbkaaGreatDoorWm
section
namespace Go.Proofs.YthfdnggfegbbkaaGreatDoor
open Go Go.CE Go.PE Go.ChangeShapes Go.WideShapes Go.ChangeAt Go.RowKit Go.Proofs.Tryz.Kn Go.Joins
set_option maxRecDepth 100000
namespace Law
theorem zt2 {n : Nat} {ds : List DV} (h : Ty Tryz.prog (n + 2) 89 ds) : ∃ s : Slip, ds = ztU s ∧ s.ok := by
 have h := uu Tryz.underlying89 h;obtain ⟨a0, b0, rfl, h0, a1, b1, rfl, h1, rfl⟩ := h;obtain ⟨m0, rfl, q0⟩ := ut h0;obtain ⟨m1, rfl, q1⟩ := ut h1;exact ⟨⟨m0, m1⟩, rfl, ⟨q0, q1⟩⟩
theorem cU64 : Tryz.prog.cellsOf 39 = 1 := by kernel_rfl
theorem ztX {n : Nat} {ds : List DV} (h : Ty Tryz.prog (n + 1) 39 ds) : ∃ m : Int, ds = enU m ∧ True := by
 obtain ⟨m, rfl, _⟩ := zne Tryz.underlying39 h;exact ⟨m, rfl, trivial⟩
theorem zt3 {n : Nat} {ds : List DV} (h : Ty Tryz.prog (n + 3) 41 ds) : ∃ r : Reg, ds = y4 r ∧ zjk r := by
 have h := uu Tryz.underlying41 h;obtain ⟨a0, b0, rfl, h0, a1, b1, rfl, h1, a2, b2, rfl, h2, rfl⟩ := h;obtain ⟨s, rfl, s1, _⟩ := zlD (f := enU) (q := fun _ => True) Tryz.underlying38 cU64 (fun x hx => ztX hx) h0
 obtain ⟨m1, rfl, _⟩ := ztX h1;obtain ⟨m2, rfl, _⟩ := ztX h2;exact ⟨⟨s, m1, m2⟩, rfl, s1⟩
theorem zua : Tryz.prog.readableRec 89 = true := by kernel_rfl
theorem zub : 89 < Tryz.prog.types.size := of_decide_eq_true (by kernel_rfl)
theorem zue : qc Tryz.prog 2 89 = true := by kernel_rfl
theorem zuo : Tryz.prog.readableRec 41 = true := by kernel_rfl
theorem zup : 41 < Tryz.prog.types.size := of_decide_eq_true (by kernel_rfl)
theorem zus : qc Tryz.prog 3 41 = true := by kernel_rfl
end Law
end Go.Proofs.YthfdnggfegbbkaaGreatDoor
end
section
namespace Go.Proofs.YthfdnggfegbbkaaGreatDoor
open Go Go.CE Go.PE Go.ChangeShapes Go.WideShapes Go.ChangeAt Go.RowKit Go.Proofs.Tryz.Kn Go.Joins
namespace RelayErrors
open Law
set_option maxRecDepth 100000 in
theorem lifted (os : Os) (started : os.Started) (H : Type) (enc : TypeId × Value → H) :
  ReturnsInHanded {} Tryz.checked os 7 .any (fun w args => (Rows.relayErrorsSpec.pre enc Tryz.prog Tryz.f7 [] false w args ∧ laidMetH Tryz.prog zkl w) ∧ sizedMet enc Tryz.prog Tryz.f7 (OpenSpec.ofChange Rows.relayErrorsSpec) false w args)
   (Rows.relayErrorsSpec.post enc Tryz.prog Tryz.f7 false true false false) := by
 refine returnsInHanded_of_change_and (C := Tryz.checked) (X := fun w _ => laidMetH Tryz.prog zkl w) (fun _ _ _ hh h => h.of_heap hh) own started (by kernel_rfl) Tryz.func7
  (ChangeSpec.witness_shaped (enc := enc) (C := Tryz.checked) (os := os) (X := fun w _ => laidMetH Tryz.prog zkl w) false (World.doorLaid Tryz.prog 400 os) #[.agg #[.slice none 0 0, .slice none 0 0, .slice none 0 0], .agg #[.int .u8 0, .int .u8 0], .agg #[.slice none 0 0, .int .u64 0, .int .u64 0]] 8 rfl (World.shaped_of_RefB (by kernel_rfl) (by kernel_rfl)) (by kernel_rfl) (by kernel_rfl) (by kernel_rfl) (zmW os _)) ?_
 intro W base args ds gs before hval0 hW _ _ hL _;have hval : ∀ (j : Nat) t v, Tryz.f7.params[j]? = some t → args[j]? = some v → Value.okWide Tryz.prog W .any base t v := hval0;have hW' := hW;obtain ⟨p, q, hA0, hV, rfl, hfz, hnd⟩ := hW;have hA : DataW.TrodAll enc Tryz.prog W 0 (fun _ => true) true Tryz.f7.params.toList args.toList ds p := hA0
 rw [Tryz.params7] at hA hval;obtain ⟨v0, v1, v2, d0, d1, d2, p0, p1, p2, rfl, rfl, rfl, h0, h1, h2⟩ := trodAll_three hA;obtain ⟨rfl, rfl⟩ := trodVars_none hV;obtain ⟨vs0, es0, rfl, r0_, w0, hty0⟩ := PE.open_row 6 (by kernel_rfl) zrr (hval 0 26 v0 rfl rfl) h0
 obtain ⟨p, rfl, hp⟩ := zok hty0;obtain ⟨vs1, es1, rfl, r1_, w1, hty1⟩ := PE.open_row 2 (by kernel_rfl) zue (hval 1 89 v1 rfl rfl) h1
 obtain ⟨sl1, rfl, hsl1⟩ := zt2 hty1;obtain ⟨vs2, es2, rfl, r2_, w2, hty2⟩ := PE.open_row 3 (by kernel_rfl) zus (hval 2 41 v2 rfl rfl) h2
 obtain ⟨r2, rfl, hr2⟩ := zt3 hty2;clear hA0 hval0;simp only [List.append_nil] at hW';have c := zm2 zm3 (D_ok 14) (ztq hL) (g := 7) (vs := [.s (.agg vs0), .s (.agg vs1), .s (.agg vs2)]) (ds := [.s (.agg (zdn p)), .s (.agg (ztU sl1)), .s (.agg (y4 r2))])
  ⟨r0_, r1_, r2_, trivial⟩ (fun x hx => by
   simp only [List.mem_cons, List.not_mem_nil, or_false] at hx;rcases hx with rfl | rfl | rfl
   ·exact w0
   ·exact w1
   ·exact w2) (b := true) (t7 0 p hp sl1 hsl1 r2 hr2)
 have hlt : ∀ x ∈ p0 ++ (p1 ++ p2), x.block < W.heap.size := fun x hx => hW'.lt x (by simpa using hx)
 refine (c.calls room).mono fun e W' ⟨he, hb⟩ => ⟨_, he, ?_⟩
 refine ⟨[d0, d1, d2], [], p0 ++ (p1 ++ p2), [], p0 ++ (p1 ++ p2), [], by simpa using hW', ?_, ?_, rfl, hb.frame _, fun hh => by cases hh⟩
 ·exact trodAll_mk1 (shut_bool Tryz.underlying4 true)
 ·exact trodAll_mk3 (Below.trod laidOut zqD zq4 h0 hb fun x hx => hlt x (by simp [hx])) (Below.trod laidOut zua zub h1 hb fun x hx => hlt x (by simp [hx])) (Below.trod laidOut zuo zup h2 hb fun x hx => hlt x (by simp [hx]))
end RelayErrors
end Go.Proofs.YthfdnggfegbbkaaGreatDoor
end
