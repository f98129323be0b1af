/-
  The law CrescendoBits of the program answers true for every input, and each argument reads as before. No condition.
-/
import Derived.Test.YtpoejpijhnankaaGreatRows
import Derived.Test.YtpoejpijhnankaaGreatCf
import Derived.Test.YtpoejpijhnankaaGreatCEzb
import Derived.ProofKit
import Derived.OpenShut
import Derived.Carry
import Derived.Lib.SmallJoins
import Derived.Deep.Slices
namespace Go.Proofs.YtpoejpijhnankaaGreat
open Go Go.CE Go.ChangeShapes Go.WideShapes Go.ChangeAt Go.RowKit Go.Proofs.Tryz.Kn Go.Joins Go.Deep

namespace Bits
theorem own : ownKnob Tryz.prog.godebug = none := by kernel_rfl
theorem laidOut : laidOutB Tryz.prog = true := by kernel_rfl
theorem cells25 : Tryz.prog.cellsOf 25 = 3 := by kernel_rfl
theorem cells23 : Tryz.prog.cellsOf 23 = 1 := by kernel_rfl
theorem ct25 : Tryz.prog.cellTypes Tryz.prog.depth 25 = some [22, 23, 23] := by kernel_rfl
theorem rr25 : Tryz.prog.readableRec 25 = true := by kernel_rfl
theorem lt25 : 25 < Tryz.prog.types.size := of_decide_eq_true (by kernel_rfl)

theorem cell_inv {w : World} {b off : Nat} {v : Value} (h : w.cell? ⟨b, off, none⟩ = some v) : ∃ arr e fr, w.heap[b]? = some (.cells arr e fr) ∧ arr[off]? = some v := by
  unfold World.cell? at h
  cases hx : w.heap[b]? with
  | none => simp [hx] at h
  | some x =>
    cases x with
    | cells arr e fr => refine ⟨arr, e, fr, rfl, ?_⟩; simpa [hx] using h
    | _ => simp [hx] at h
theorem shape_lt {w : World} {b : Nat} {q : TypeId × Nat} (h : w.shape? b = some q) : b < w.heap.size := by
  unfold World.shape? at h
  cases hx : w.heap[b]? with
  | none => simp [hx] at h
  | some x => exact (Array.getElem?_eq_some_iff.1 hx).1

theorem wf64 {c : Int} (h : (Lit.int .u64 c).wf = true) : c = Int.ofNat c.toNat ∧ c.toNat < 2 ^ 64 := by
  simp [Lit.wf, IntKind.min, IntKind.max, IntKind.signed, IntKind.bits] at h
  constructor
  · simp only [Int.ofNat_eq_natCast]; omega
  · omega

def natOf : Value → Nat
  | .int _ n => n.toNat
  | _ => 0

section
variable {H : Type} {enc : TypeId × Value → H} {W : World} {base : Nat}

set_option maxRecDepth 100000 in
theorem reg_open {v : Value} {d : DataW H} {p : List MemPlace} (hv : Value.okWide Tryz.prog W .any base 25 v) (h : DataW.Trod enc Tryz.prog W 0 (fun _ => true) true 25 v d p) :
    ∃ s r, v = concA φ0 (rv s r) ∧ Rg (heapOf W) s r ∧ wfA φ0 W.heap.size (rv s r) := by
  obtain ⟨v0, v1, v2, y0, y1, y2, n, rfl, rfl, rfl, t0, t1, t2⟩ := open_agg3 Tryz.underlying25 (by kernel_rfl) cells25 hv h
  obtain ⟨c, e1, _, wc⟩ := DataW.trod_int Tryz.underlying23 t1
  obtain ⟨o, e2, _, wo⟩ := DataW.trod_int Tryz.underlying23 t2
  cases e1
  cases e2
  obtain ⟨hc1, hc2⟩ := wf64 wc
  obtain ⟨ho1, ho2⟩ := wf64 wo
  have hcell : Cell.okWide Tryz.prog W .any base 22 v0 := by
    simp only [Value.okWide, Tryz.underlying25] at hv
    obtain ⟨cs, hcs, _, ts, hts, _, hc⟩ := hv
    cases hcs
    rw [ct25] at hts
    cases hts
    obtain ⟨u, hu, hk⟩ := hc 0 v0 rfl
    cases hu
    exact hk
  rcases open_slice1 Tryz.underlying22 cells23 t0 with ⟨e0, _⟩ | ⟨a, len, cap, m, n', V, D, Pl, e0, _, hl, hm, hmm, _, hx⟩
  · cases e0
    refine ⟨.nils, ⟨[], c.toNat, o.toNat⟩, ?_, ⟨.inl ⟨rfl, rfl⟩, hc2, ho2⟩, ?_⟩
    · simp only [concA, concS, concC, List.map]; rw [← hc1, ← ho1]
    · intro q hq
      simp only [List.mem_cons, List.not_mem_nil, or_false] at hq
      rcases hq with rfl | rfl | rfl <;> trivial
  · cases e0
    simp only [Cell.okWide, Tryz.underlying22, Cell.ok] at hcell
    obtain ⟨_, _, _, hsp, row, cells, hsh, _⟩ := hcell
    obtain ⟨b, off, sp⟩ := a
    simp only at hsp hsh
    subst hsp
    have hb := shape_lt hsh
    simp only [if_true] at hmm
    subst hmm
    let l := (List.range len).map fun i => natOf (V i)
    have hll : l.length = len := by simp [l]
    have hin : ∀ i, i < len → V i = .int .u64 (.ofNat (natOf (V i))) ∧ natOf (V i) < 2 ^ 64 := fun i hi => by
      obtain ⟨z, e3, _, w3⟩ := DataW.trod_int Tryz.underlying23 (hx i (by omega)).2
      cases e3' : V i with
      | int k q => rw [e3'] at e3; cases e3; obtain ⟨k1, k2⟩ := wf64 w3; exact ⟨by rw [natOf, ← k1], k2⟩
      | _ => rw [e3'] at e3; cases e3
    refine ⟨.slc (bn b) off len m true, ⟨l, c.toNat, o.toNat⟩, ?_, ⟨.inr ⟨bn b, off, m, true, by rw [hll], fun i x hi => ?_⟩, hc2, ho2⟩, ?_⟩
    · simp only [concA, concS, concC, List.map, adr, φ0, bn_toNat, Nat.zero_add, cond_true]; rw [← hc1, ← ho1]
    · have hi' : i < len := by rw [← hll]; exact (List.getElem?_eq_some_iff.1 hi).1
      have hxe : x = natOf (V i) := by
        simp only [l, List.getElem?_map, List.getElem?_range hi', Option.map_some, Option.some.injEq] at hi
        exact hi.symm
      subst hxe
      obtain ⟨k1, k2⟩ := hin i hi'
      have hcl := (hx i (by omega)).1
      rw [add_plain] at hcl
      obtain ⟨arr, e, fr, g1, g2⟩ := cell_inv hcl
      refine ⟨roOf W (.cells arr e fr), [wd (natOf (V i))], ?_, ?_, rfl, k2⟩
      · rw [heapOf_get, bn_toNat, g1]; rfl
      · rw [Nat.mul_one]
        have : (arr[off + i]?).bind (absV W) = some (wd (natOf (V i))) := by rw [g2, k1]; rfl
        simp only [roOf, rd, cutF, this, consO]
    · intro q hq
      simp only [List.mem_cons, List.not_mem_nil, or_false] at hq
      rcases hq with rfl | rfl | rfl
      · exact ⟨by rw [bn_toNat]; exact hb, fun hh => (by cases hh), fun _ => hl⟩
      · trivial
      · trivial
end

theorem room (k : Nat) : (FR none).room k := by first | trivial | simp [Fence.room, FR, Fence.wide]

theorem law_calls (W : World) {s t : CVal} {a b : RegD} (A : Rg (heapOf W) s a) (B : Rg (heapOf W) t b) (wa : wfA φ0 W.heap.size (rv s a)) (wb : wfA φ0 W.heap.size (rv t b)) :
    Calls Tryz.prog 3 #[concA φ0 (rv s a), concA φ0 (rv t b)] W fun e W' => e = .returned (.bool true) ∧ Below W.heap.size W W' := by
  obtain ⟨⟨v, h2⟩, ⟨hv, hw2, G⟩, N, hN⟩ := law_ok (heapOf_hw W) A B
  simp only at hv
  subst hv
  refine ((calls_world W (C_ok N) (fun x hx => ?_) (hN N (Nat.le_refl _)) G).mono ?_).calls room
  · simp only [List.mem_cons, List.not_mem_nil, or_false] at hx
    rcases hx with rfl | rfl
    · exact wa
    · exact wb
  · rintro e w2 ⟨φ, rfl, hb⟩
    exact ⟨rfl, hb⟩

set_option maxRecDepth 100000 in
theorem lifted (os : Os) (started : os.Started) (H : Type) (enc : TypeId × Value → H) :
    ReturnsInHanded {} Tryz.checked os 3 .any (Rows.crescendoBitsSpec.pre6 enc Tryz.prog Tryz.f3 Rows.crescendoBitsRow.domain false) (Rows.crescendoBitsSpec.post enc Tryz.prog Tryz.f3 false true false false) := by
  refine returnsInHanded_of_change (C := Tryz.checked) own started (by kernel_rfl) Tryz.func3
    (ChangeSpec.witness6 (enc := enc) (C := Tryz.checked) false ⟨#[], #[.agg #[.slice none 0 0, .int .u64 0, .int .u64 0], .agg #[.slice none 0 0, .int .u64 0, .int .u64 0]], []⟩ 8 (by kernel_rfl) (by kernel_rfl) (by kernel_rfl) (by kernel_rfl)) ?_
  intro W base args ds gs before hval0 hW hcnd _
  have hval : ∀ (j : Nat) t v, Tryz.f3.params[j]? = some t → args[j]? = some v → Value.okWide Tryz.prog W .any base t v := hval0
  have hW' := hW
  obtain ⟨p, q, hA0, hV, rfl, hfz, hnd⟩ := hW
  have hA : DataW.TrodAll enc Tryz.prog W 0 (fun _ => true) true Tryz.f3.params.toList args.toList ds p := hA0
  rw [Tryz.params3] at hA hval
  obtain ⟨v0, v1, d0, d1, p0, p1, rfl, rfl, rfl, h0, h1⟩ := trodAll_two hA
  obtain ⟨rfl, rfl⟩ := trodVars_none hV
  obtain ⟨s, a, rfl, A, wa⟩ := reg_open (hval 0 25 v0 rfl rfl) h0
  obtain ⟨t, b, rfl, B, wb⟩ := reg_open (hval 1 25 v1 rfl rfl) h1
  clear hA0 hval0
  simp only [List.append_nil] at hW'
  have hlt : ∀ x ∈ p0 ++ p1, x.block < W.heap.size := fun x hx => hW'.lt x hx
  refine (law_calls W A B wa wb).mono fun e W' ⟨he, hb⟩ => ⟨_, he, ?_⟩
  refine ⟨[d0, d1], [], p0 ++ p1, [], p0 ++ p1, [], hW', ?_, ?_, rfl, hb.frame _, fun hh => by cases hh⟩
  · exact trodAll_mk1 (shut_bool Tryz.underlying4 true)
  · exact trodAll_mk2 (Below.trod laidOut rr25 lt25 h0 hb fun x hx => hlt x (List.mem_append_left _ hx)) (Below.trod laidOut rr25 lt25 h1 hb fun x hx => hlt x (List.mem_append_right _ hx))
end Bits

theorem crescendoBits_holds : Rows.CrescendoBitsSaid :=
  OpenClaim.holds_of_wide 3 Tryz.f3 rfl rfl rfl rfl rfl rfl rfl ⟨rfl, rfl, rfl, rfl, rfl⟩ rfl rfl rfl rfl rfl (by kernel_rfl) Tryz.func3 (by kernel_rfl)
    (of_decide_eq_true (by kernel_rfl)) (by unfold Func.isWrapper; first | (rw [if_pos (by decide +kernel)]; kernel_rfl) | (rw [if_neg (by decide +kernel)]; exact ⟨rfl, rfl⟩))
    (fun os started H enc _ => Bits.lifted os started H enc)
#print axioms crescendoBits_holds
end Go.Proofs.YtpoejpijhnankaaGreat
