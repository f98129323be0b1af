/-
  The concrete evaluator: operations that only look. No condition.
-/
import Derived.Test.YtpoejpijhnankaaGreatCEe
namespace Go.CE
open Go.RowKit

/-- It leaves the heap alone. -/
def StillF (f : OpFn) : Prop := ∀ call t h v h2, f call t h = some (v, h2) → h2 = h

theorem still_bad : StillF (orBad none) := fun _ _ _ _ _ e => by cases e
theorem still_some {f : OpFn} (hf : StillF f) : StillF (orBad (some f)) := hf
theorem still_bind {α : Type} {a : Option α} {g : α → Option OpFn} (hg : ∀ x, StillF (orBad (g x))) : StillF (orBad (a.bind g)) := by
  cases a with
  | none => exact still_bad
  | some x => exact hg x
theorem still_bind' {α : Type} {a : Option α} {g : α → Option OpFn} (hg : ∀ x, StillF (orBad (g x))) : StillF (orBad (a >>= g)) := still_bind hg
theorem still_map {α : Type} {a : Option α} {g : α → OpFn} (hg : ∀ x, StillF (g x)) : StillF (orBad (a.map g)) := by
  cases a with
  | none => exact still_bad
  | some x => exact hg x
theorem still_cond {b : Bool} {x y : Option OpFn} (hx : StillF (orBad x)) (hy : StillF (orBad y)) : StillF (orBad (bif b then x else y)) := by
  cases b
  · exact hy
  · exact hx

theorem retC_h {h h2 : AHeap} {c : Option CVal} {v : AVal} (e : retC h c = some (v, h2)) : h2 = h := by cases c <;> cases e; rfl
theorem retA_h {h h2 : AHeap} {c : Option (List CVal)} {v : AVal} (e : retA h c = some (v, h2)) : h2 = h := by cases c <;> cases e; rfl
theorem part_h {h h2 : AHeap} {n : Option Nat} {cs : List CVal} {off : Nat} {v : AVal} (e : part n cs off h = some (v, h2)) : h2 = h := by
  cases n
  · exact retC_h e
  · exact retA_h e
theorem cond_h {h h2 : AHeap} {b : Bool} {x y : Res} {v : AVal} (hx : x = some (v, h2) → h2 = h) (hy : y = some (v, h2) → h2 = h) (e : (bif b then x else y) = some (v, h2)) : h2 = h := by
  cases b
  · exact hy e
  · exact hx e

theorem sliceEx_h {st : Nat} {lo hi mx : Option Opd} {t : Tr AVal} {h h2 : AHeap} {b : BN} {off len cap : Nat} {v : AVal} (e : sliceEx st lo hi mx t h b off len cap = some (v, h2)) : h2 = h := by
  unfold sliceEx at e
  (repeat' split at e) <;> first | (cases e; done) | exact cond_h (fun e => by cases e; rfl) (fun e => by cases e) e
theorem sliceUn_h {st : Nat} {lo hi mx : Option Opd} {t : Tr AVal} {h h2 : AHeap} {b : BN} {off len cap : Nat} {v : AVal} (e : sliceUn st lo hi mx t h b off len cap = some (v, h2)) : h2 = h := by
  unfold sliceUn at e
  (repeat' split at e) <;> first | (cases e; done) | (cases e; rfl) | exact cond_h (fun e => by cases e; rfl) (fun e => by cases e) e
theorem sliceNil_h {lo hi mx : Option Opd} {t : Tr AVal} {h h2 : AHeap} {v : AVal} (e : sliceNil lo hi mx t h = some (v, h2)) : h2 = h := by
  unfold sliceNil at e
  split at e <;> cases e; rfl

theorem still_mv (x : Opd) : StillF (opMv x) := by
  intro call t h v h2 e
  unfold opMv at e
  (repeat' split at e) <;> first | (cases e; done) | (cases e; rfl) | exact retC_h e | exact retA_h e | exact part_h e | exact cond_h (fun e => by first | (cases e; rfl) | exact retC_h e | exact part_h e) (fun e => by cases e) e
theorem still_pick (x y z : Opd) : StillF (opPick x y z) := by
  intro call t h v h2 e
  unfold opPick at e
  (repeat' split at e) <;> first | (cases e; done) | (cases e; rfl) | exact retC_h e | exact retA_h e | exact part_h e | exact cond_h (fun e => by first | (cases e; rfl) | exact retC_h e | exact part_h e) (fun e => by cases e) e
theorem still_build (zs ps) : StillF (opBuild zs ps) := by intro call t h v h2 e; exact retA_h e
theorem still_load (n x) : StillF (opLoad n x) := by
  intro call t h v h2 e
  unfold opLoad loadAt at e
  (repeat' split at e) <;> first | (cases e; done) | exact part_h e | (unfold partF at e; split at e; exact retC_h e; exact retA_h e)
theorem still_nilck (x) : StillF (opNilck x) := by
  intro call t h v h2 e
  unfold opNilck at e
  (repeat' split at e) <;> first | (cases e; done) | (cases e; rfl) | exact retC_h e | exact retA_h e | exact part_h e | exact cond_h (fun e => by first | (cases e; rfl) | exact retC_h e | exact part_h e) (fun e => by cases e) e
theorem still_int (g x y) : StillF (opInt g x y) := by
  intro call t h v h2 e
  unfold opInt at e
  (repeat' split at e) <;> first | (cases e; done) | (cases e; rfl) | exact retC_h e | exact retA_h e | exact part_h e | exact cond_h (fun e => by first | (cases e; rfl) | exact retC_h e | exact part_h e) (fun e => by cases e) e
theorem still_shift (g x y) : StillF (opShift g x y) := by
  intro call t h v h2 e
  unfold opShift at e
  (repeat' split at e) <;> first | (cases e; done) | (cases e; rfl) | exact retC_h e | exact retA_h e | exact part_h e | exact cond_h (fun e => by first | (cases e; rfl) | exact retC_h e | exact part_h e) (fun e => by cases e) e
theorem still_str (g x y) : StillF (opStr g x y) := by
  intro call t h v h2 e
  unfold opStr at e
  (repeat' split at e) <;> first | (cases e; done) | (cases e; rfl) | exact retC_h e | exact retA_h e | exact part_h e | exact cond_h (fun e => by first | (cases e; rfl) | exact retC_h e | exact part_h e) (fun e => by cases e) e
theorem still_eq (g n x y) : StillF (opEq g n x y) := by
  intro call t h v h2 e
  unfold opEq at e
  (repeat' split at e) <;> first | (cases e; done) | (cases e; rfl) | exact retC_h e | exact retA_h e | exact part_h e | exact cond_h (fun e => by first | (cases e; rfl) | exact retC_h e | exact part_h e) (fun e => by cases e) e
theorem still_nilS (n x y) : StillF (opNilS n x y) := by
  intro call t h v h2 e
  unfold opNilS at e
  (repeat' split at e) <;> first | (cases e; done) | (cases e; rfl) | exact retC_h e | exact retA_h e | exact part_h e | exact cond_h (fun e => by first | (cases e; rfl) | exact retC_h e | exact part_h e) (fun e => by cases e) e
theorem still_nilF (n x y) : StillF (opNilF n x y) := by
  intro call t h v h2 e
  unfold opNilF at e
  (repeat' split at e) <;> first | (cases e; done) | (cases e; rfl) | exact retC_h e | exact retA_h e | exact part_h e | exact cond_h (fun e => by first | (cases e; rfl) | exact retC_h e | exact part_h e) (fun e => by cases e) e
theorem still_not (x) : StillF (opNot x) := by
  intro call t h v h2 e
  unfold opNot at e
  (repeat' split at e) <;> first | (cases e; done) | (cases e; rfl) | exact retC_h e | exact retA_h e | exact part_h e | exact cond_h (fun e => by first | (cases e; rfl) | exact retC_h e | exact part_h e) (fun e => by cases e) e
theorem still_neg (x) : StillF (opNeg x) := by
  intro call t h v h2 e
  unfold opNeg at e
  (repeat' split at e) <;> first | (cases e; done) | (cases e; rfl) | exact retC_h e | exact retA_h e | exact part_h e | exact cond_h (fun e => by first | (cases e; rfl) | exact retC_h e | exact part_h e) (fun e => by cases e) e
theorem still_conv (k x) : StillF (opConv k x) := by
  intro call t h v h2 e
  unfold opConv at e
  (repeat' split at e) <;> first | (cases e; done) | (cases e; rfl) | exact retC_h e | exact retA_h e | exact part_h e | exact cond_h (fun e => by first | (cases e; rfl) | exact retC_h e | exact part_h e) (fun e => by cases e) e
theorem still_mkfn (f x) : StillF (opMkfn f x) := by
  intro call t h v h2 e
  unfold opMkfn at e
  (repeat' split at e) <;> first | (cases e; done) | (cases e; rfl) | exact retC_h e | exact retA_h e | exact part_h e | exact cond_h (fun e => by first | (cases e; rfl) | exact retC_h e | exact part_h e) (fun e => by cases e) e
theorem still_slice (st x lo hi mx) : StillF (opSlice st x lo hi mx) := by
  intro call t h v h2 e
  unfold opSlice at e
  split at e
  · exact sliceNil_h e
  · exact cond_h sliceEx_h sliceUn_h e
  · cases e
theorem still_sslice (x lo hi) : StillF (opSslice x lo hi) := by
  intro call t h v h2 e
  unfold opSslice at e
  (repeat' split at e) <;> first | (cases e; done) | (cases e; rfl) | exact retC_h e | exact retA_h e | exact part_h e | exact cond_h (fun e => by first | (cases e; rfl) | exact retC_h e | exact part_h e) (fun e => by cases e) e
theorem still_foff (x o) : StillF (opFoff x o) := by
  intro call t h v h2 e
  unfold opFoff at e
  (repeat' split at e) <;> first | (cases e; done) | (cases e; rfl) | exact retC_h e | exact retA_h e | exact part_h e | exact cond_h (fun e => by first | (cases e; rfl) | exact retC_h e | exact part_h e) (fun e => by cases e) e
theorem still_field (x o n) : StillF (opField x o n) := by
  intro call t h v h2 e
  unfold opField at e
  (repeat' split at e) <;> first | (cases e; done) | (cases e; rfl) | exact retC_h e | exact retA_h e | exact part_h e | exact cond_h (fun e => by first | (cases e; rfl) | exact retC_h e | exact part_h e) (fun e => by cases e) e
theorem still_ixs (st x i) : StillF (opIxs st x i) := by
  intro call t h v h2 e
  unfold opIxs at e
  (repeat' split at e) <;> first | (cases e; done) | (cases e; rfl) | exact retC_h e | exact retA_h e | exact part_h e | exact cond_h (fun e => by first | (cases e; rfl) | exact retC_h e | exact part_h e) (fun e => by cases e) e
theorem still_ixarr (l st x i) : StillF (opIxarr l st x i) := by
  intro call t h v h2 e
  unfold opIxarr at e
  (repeat' split at e) <;> first | (cases e; done) | (cases e; rfl) | exact retC_h e | exact retA_h e | exact part_h e | exact cond_h (fun e => by first | (cases e; rfl) | exact retC_h e | exact part_h e) (fun e => by cases e) e
theorem still_ixagg (l st n x i) : StillF (opIxagg l st n x i) := by
  intro call t h v h2 e
  unfold opIxagg at e
  (repeat' split at e) <;> first | (cases e; done) | (cases e; rfl) | exact retC_h e | exact retA_h e | exact part_h e | exact cond_h (fun e => by first | (cases e; rfl) | exact retC_h e | exact part_h e) (fun e => by cases e) e
theorem still_ixstr (x i) : StillF (opIxstr x i) := by
  intro call t h v h2 e
  unfold opIxstr at e
  (repeat' split at e) <;> first | (cases e; done) | (cases e; rfl) | exact retC_h e | exact retA_h e | exact part_h e | exact cond_h (fun e => by first | (cases e; rfl) | exact retC_h e | exact part_h e) (fun e => by cases e) e
theorem still_lookup (q z ok m k) : StillF (opLookup q z ok m k) := by
  intro call t h v h2 e
  unfold opLookup at e
  split at e
  · refine cond_h (fun e => by cases e) (fun e => ?_) e
    split at e
    · cases e; rfl
    · cases e
  · cases e
theorem still_extract (x i) : StillF (opExtract x i) := by
  intro call t h v h2 e
  unfold opExtract at e
  (repeat' split at e) <;> first | (cases e; done) | (cases e; rfl) | exact retC_h e | exact retA_h e | exact part_h e | exact cond_h (fun e => by first | (cases e; rfl) | exact retC_h e | exact part_h e) (fun e => by cases e) e
theorem still_lenS (x) : StillF (opLenS x) := by
  intro call t h v h2 e
  unfold opLenS at e
  (repeat' split at e) <;> first | (cases e; done) | (cases e; rfl) | exact retC_h e | exact retA_h e | exact part_h e | exact cond_h (fun e => by first | (cases e; rfl) | exact retC_h e | exact part_h e) (fun e => by cases e) e
theorem still_lenL (x) : StillF (opLenL x) := by
  intro call t h v h2 e
  unfold opLenL at e
  (repeat' split at e) <;> first | (cases e; done) | (cases e; rfl) | exact retC_h e | exact retA_h e | exact part_h e | exact cond_h (fun e => by first | (cases e; rfl) | exact retC_h e | exact part_h e) (fun e => by cases e) e
theorem still_lenM (x) : StillF (opLenM x) := by
  intro call t h v h2 e
  unfold opLenM at e
  (repeat' split at e) <;> first | (cases e; done) | (cases e; rfl) | exact retC_h e | exact retA_h e | exact part_h e | exact cond_h (fun e => by first | (cases e; rfl) | exact retC_h e | exact part_h e) (fun e => by cases e) e
theorem still_minmax (b x xs) : StillF (opMinmax b x xs) := by
  intro call t h v h2 e
  unfold opMinmax at e
  (repeat' split at e) <;> first | (cases e; done) | (cases e; rfl) | exact retC_h e | exact retA_h e | exact part_h e | exact cond_h (fun e => by first | (cases e; rfl) | exact retC_h e | exact part_h e) (fun e => by cases e) e

theorem still_cOp (P : Program) (o : Op) (hq : quietOp o = true) : StillF (cOp P o) := by
  cases o with
  | move x => exact still_map still_mv
  | assign x => exact still_map still_mv
  | pick c x y => exact still_bind' fun _ => still_bind' fun _ => still_bind' fun _ => still_some (still_pick _ _ _)
  | build t parts =>
    unfold cOp
    simp only
    split
    · exact still_cond (still_bind' fun _ => still_some (still_build _ _)) still_bad
    · split
      · exact still_bind' fun _ => still_some (still_build _ _)
      · exact still_bad
    · exact still_bad
  | load t x => exact still_bind' fun _ => still_bind' fun _ => still_some (still_load _ _)
  | nilCheck x => exact still_bind' fun _ => still_some (still_nilck _)
  | binOp op t x y u =>
    unfold cOp
    simp only
    split
    · split
      · exact still_bind' fun _ => still_bind' fun _ => still_some (still_shift _ _ _)
      · exact still_bind' fun _ => still_bind' fun _ => still_some (still_shift _ _ _)
      · exact still_bind' fun _ => still_bind' fun _ => still_some (still_int _ _ _)
    · exact still_bind' fun _ => still_bind' fun _ => still_some (still_str _ _ _)
    · split
      · exact still_bind' fun _ => still_bind' fun _ => still_some (still_nilS _ _ _)
      · exact still_bind' fun _ => still_bind' fun _ => still_some (still_nilS _ _ _)
      · exact still_bad
    · split
      · exact still_bind' fun _ => still_bind' fun _ => still_some (still_nilF _ _ _)
      · exact still_bind' fun _ => still_bind' fun _ => still_some (still_nilF _ _ _)
      · exact still_bad
    · refine still_cond still_bad ?_
      split
      · exact still_bind' fun _ => still_bind' fun _ => still_bind' fun _ => still_some (still_eq _ _ _ _)
      · exact still_bind' fun _ => still_bind' fun _ => still_bind' fun _ => still_some (still_eq _ _ _ _)
      · exact still_bad
    · exact still_bad
  | unOp u t x =>
    cases u with
    | not => exact still_bind' fun _ => still_some (still_not _)
    | neg => exact still_bind' fun _ => still_some (still_neg _)
    | _ => exact still_bad
  | convert a b x =>
    unfold cOp
    simp only
    split
    · exact still_bind' fun _ => still_some (still_conv _ _)
    · exact still_bad
  | makeFunc f first captured =>
    cases f with
    | func f => exact still_cond (still_bind' fun _ => still_some (still_mkfn _ _)) still_bad
    | _ => exact still_bad
  | slice t x lo hi mx =>
    unfold cOp
    simp only
    split
    · split
      · exact still_cond still_bad (still_bind' fun _ => still_bind' fun _ => still_bind' fun _ => still_bind' fun _ => still_some (still_slice _ _ _ _ _))
      · exact still_bad
    · exact still_cond still_bad (still_bind' fun _ => still_bind' fun _ => still_bind' fun _ => still_some (still_sslice _ _ _))
    · exact still_bad
  | fieldAddr t x f =>
    unfold cOp
    simp only
    split
    · split
      · split
        · exact still_cond still_bad (still_bind' fun _ => still_some (still_foff _ _))
        · exact still_bad
      · exact still_bad
    · exact still_bad
  | field t x f =>
    unfold cOp
    simp only
    split
    · split
      · exact still_bind' fun _ => still_bind' fun _ => still_some (still_field _ _ _)
      · exact still_bad
    · exact still_bad
  | indexAddr t x i =>
    unfold cOp
    simp only
    split
    · split
      · exact still_bind' fun _ => still_bind' fun _ => still_some (still_ixs _ _ _)
      · exact still_bad
    · split
      · exact still_bind' fun _ => still_bind' fun _ => still_some (still_ixarr _ _ _ _)
      · exact still_bad
    · exact still_bad
  | index t x i =>
    unfold cOp
    simp only
    split
    · split
      · exact still_bind' fun _ => still_bind' fun _ => still_bind' fun _ => still_some (still_ixagg _ _ _ _ _)
      · exact still_bad
    · exact still_bind' fun _ => still_bind' fun _ => still_some (still_ixstr _ _)
    · exact still_bad
  | lookup t m k ok =>
    unfold cOp
    simp only
    split
    · exact still_bind' fun _ => still_bind' fun _ => still_bind' fun _ => still_bind' fun _ => still_some (still_lookup _ _ _ _ _)
    · exact still_bad
  | extract x i => exact still_bind' fun _ => still_some (still_extract _ _)
  | call c =>
    obtain ⟨callee, args, ts⟩ := c
    cases callee with
    | builtin b =>
      cases b with
      | len =>
        unfold cOp
        simp only
        split
        · split
          · exact still_bind' fun _ => still_some (still_lenS _)
          · exact still_bind' fun _ => still_some (still_lenL _)
          · exact still_bind' fun _ => still_some (still_lenM _)
          · exact still_some (still_mv _)
          · exact still_bad
        · exact still_bad
      | max =>
        unfold cOp
        simp only
        split
        · exact still_some (still_minmax _ _ _)
        · exact still_bad
      | min =>
        unfold cOp
        simp only
        split
        · exact still_some (still_minmax _ _ _)
        · exact still_bad
      | _ => cases hq
    | _ => cases hq
  | _ => cases hq

end Go.CE
