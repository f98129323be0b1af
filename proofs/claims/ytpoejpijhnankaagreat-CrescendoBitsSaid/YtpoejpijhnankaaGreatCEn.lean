/-
  The concrete evaluator: every operation other than a call, evaluated, is what the model's operation does. No condition.
-/
import Derived.Test.YtpoejpijhnankaaGreatCEm
namespace Go.CE
open Go.RowKit

section
variable {P : Program} {w0 : World} {S : Nat → Prop} {φ : Phi} {h h2 : AHeap} {w w2 : World} {nt : Nat} {t : Tr AVal} {a : Act} {v : AVal} {call : Caller}

theorem bad_no {x : Res} (hx : x = none) (e : x = some (v, h2)) : False := by rw [hx] at e; cases e

theorem s_minmax (H : HRel w0 S φ h w) (T : TRel φ nt h.n.toNat t a.tmps) {isMax : Bool} {x : Operand} {xs : List Operand} {f : Opd} {fs : List Opd} (hx : cOpd x = some f) (hxs : cOpds xs = some fs) {s : Array Value → Sem Value}
    (hs : ∀ args : Array Value, args.toList = (x :: xs).map a.eval → s args = (xs.map a.eval).foldlM (if isMax then Builtin.max2 else Builtin.min2) (a.eval x)) {args : Array Value} (ha : args.toList = (x :: xs).map a.eval)
    (e : opMinmax isMax f fs call t h = some (v, h2)) : Done w0 S φ h v h2 ((do pure (Next.value (← s args)) : Sem Next).run P w) := by
  unfold opMinmax at e
  split at e
  · rename_i k n hn
    split at e
    · rename_i m hm
      cases e
      refine Done.same H ?_ (run_val ?_)
      · exact trivial
      · rw [hs args ha, (opd_conc T hx).1, hn, concA_int, concA_int]
        exact minI_sound isMax k T hxs n m hm
    · cases e
  · cases e

/-- An operation that calls no function value. -/
def plainOp : Op → Bool
  | .call c => match c.callee with | .builtin _ => true | _ => false
  | _ => true

theorem op_sound (H : HRel w0 S φ h w) (T : TRel φ nt h.n.toNat t a.tmps) {o : Oper} (hp : plainOp o.op = true) (e : cOp P o.op call t h = some (v, h2)) : Done w0 S φ h v h2 ((execOp a.eval o).run P w) := by
  cases ho : o.op <;> rw [ho] at e hp <;> try (exact (bad_no rfl e).elim)
  case move x =>
    cases hx : cOpd x with
    | none => simp only [cOp, hx] at e; exact (bad_no rfl e).elim
    | some f => simp only [cOp, hx] at e; unfold execOp; simp only [ho]; exact s_mv (call := call) H (opd_conc T hx) e
  case assign x =>
    cases hx : cOpd x with
    | none => simp only [cOp, hx] at e; exact (bad_no rfl e).elim
    | some f => simp only [cOp, hx] at e; unfold execOp; simp only [ho]; exact s_mv (call := call) H (opd_conc T hx) e
  case pick c x y =>
    cases hc : cOpd c with
    | none => simp only [cOp, hc] at e; exact (bad_no rfl e).elim
    | some fc =>
      cases hx : cOpd x with
      | none => simp only [cOp, hc, hx] at e; exact (bad_no rfl e).elim
      | some fx =>
        cases hy : cOpd y with
        | none => simp only [cOp, hc, hx, hy] at e; exact (bad_no rfl e).elim
        | some fy => simp only [cOp, hc, hx, hy] at e; unfold execOp; simp only [ho]; exact s_pick (call := call) H (opd_conc T hc).1 (opd_conc T hx) (opd_conc T hy) e
  case alloc ty =>
    cases hz : zeroT P ty with
    | none => simp only [cOp, hz] at e; exact (bad_no rfl e).elim
    | some z => simp only [cOp, hz] at e; unfold execOp; simp only [ho]; exact s_alloc (call := call) (t := t) H hz e
  case box ty x =>
    cases hx : cOpd x with
    | none => simp only [cOp, hx] at e; exact (bad_no rfl e).elim
    | some f => simp only [cOp, hx] at e; unfold execOp; simp only [ho]; exact s_box (call := call) (t := t) H (opd_conc T hx) e
  case build ty parts =>
    cases hu : P.underlying ty with
    | none => simp only [cOp, hu] at e; exact (bad_no rfl e).elim
    | some d =>
      cases d <;> try (cases hz : zeroT P ty <;> simp only [cOp, hu, hz] at e <;> exact (bad_no rfl e).elim)
      case array len el =>
        cases hz : zeroT P ty with
        | none => simp only [cOp, hu, hz] at e; exact (bad_no rfl e).elim
        | some z =>
          cases hi : P.info? el with
          | none => simp only [cOp, hu, hz, hi] at e; exact (bad_no rfl e).elim
          | some i =>
            cases hr : elemParts i.size parts.toList with
            | none => simp only [cOp, hu, hz, hi, hr] at e; exact (bad_no rfl e).elim
            | some r => simp only [cOp, hu, hz, hi, hr] at e; unfold execOp; simp only [ho]; exact s_buildA (call := call) (t := t) H T hu hz hi hr e
      case struct fs =>
        cases hz : zeroT P ty with
        | none => simp only [cOp, hu, hz] at e; exact (bad_no rfl e).elim
        | some z =>
          cases hall : allInfo P fs.toList with
          | false => simp only [cOp, hu, hz, hall] at e; exact (bad_no rfl e).elim
          | true =>
            cases hr : fieldParts P fs parts.toList with
            | none => simp only [cOp, hu, hz, hall, hr] at e; exact (bad_no rfl e).elim
            | some r => simp only [cOp, hu, hz, hall, hr] at e; unfold execOp; simp only [ho]; exact s_buildS (call := call) (t := t) H T hu hz hall hr e
  case buildSlice ty len parts =>
    cases hu : P.underlying ty with
    | none => simp only [cOp, hu] at e; exact (bad_no rfl e).elim
    | some d =>
      cases d <;> try (simp only [cOp, hu] at e; exact (bad_no rfl e).elim)
      case slice el =>
        cases hi : P.info? el with
        | none => simp only [cOp, hu, hi] at e; exact (bad_no rfl e).elim
        | some i =>
          simp only [cOp, hu, hi] at e
          cases hle : Nat.ble (len * i.size) 16777216 with
          | false => rw [hle] at e; exact (bad_no rfl e).elim
          | true =>
            rw [hle] at e
            simp only [cond_true] at e
            cases hr : elemParts i.size parts.toList with
            | none =>
              rw [hr] at e
              exfalso
              revert e
              cases hb : Nat.beq (len * i.size) 0 with
              | true => simp only [cond_true, Bool.true_or]; intro e; exact bad_no rfl e
              | false =>
                cases hz : zeroT P el with
                | none => simp only [cond_false, Option.map_none]; intro e; exact bad_no rfl e
                | some z =>
                  simp only [cond_false, Option.map_some, Bool.false_or]
                  cases hzl : Nat.beq z.cells.length i.size <;> (intro e; exact bad_no rfl e)
            | some r =>
              rw [hr] at e
              unfold execOp; simp only [ho]
              cases hb : Nat.beq (len * i.size) 0 with
              | true =>
                rw [hb] at e
                simp only [cond_true, Bool.true_or] at e
                exact s_bslice (call := call) (t := t) H T hu hi (ble_true hle) (.inl ⟨beq_true hb, rfl⟩) hr e
              | false =>
                rw [hb] at e
                cases hz : zeroT P el with
                | none => simp only [hz, cond_false, Option.map_none] at e; exact (bad_no rfl e).elim
                | some z =>
                  simp only [hz, cond_false, Option.map_some, Bool.false_or] at e
                  cases hzl : Nat.beq z.cells.length i.size with
                  | false => rw [hzl] at e; exact (bad_no rfl e).elim
                  | true =>
                    rw [hzl] at e
                    exact s_bslice (call := call) (t := t) H T hu hi (ble_true hle) (.inr ⟨beq_false hb, z, hz, rfl, beq_true hzl⟩) hr e
  case load ty x =>
    cases hs : sizeT P ty with
    | none => simp only [cOp, hs] at e; exact (bad_no rfl e).elim
    | some n =>
      cases hx : cOpd x with
      | none => simp only [cOp, hs, hx] at e; exact (bad_no rfl e).elim
      | some f => simp only [cOp, hs, hx] at e; unfold execOp; simp only [ho]; exact s_load (call := call) (t := t) H hs (opd_conc T hx).1 e
  case store ty x y =>
    cases hi : P.info? ty with
    | none => simp only [cOp, hi] at e; exact (bad_no rfl e).elim
    | some i =>
      cases hx : cOpd x with
      | none => simp only [cOp, hi, hx] at e; exact (bad_no rfl e).elim
      | some f =>
        cases hy : cOpd y with
        | none => simp only [cOp, hi, hx, hy] at e; exact (bad_no rfl e).elim
        | some g => simp only [cOp, hi, hx, hy] at e; unfold execOp; simp only [ho]; exact s_store (call := call) (t := t) H hi (opd_conc T hx).1 (opd_conc T hy) e
  case nilCheck x =>
    cases hx : cOpd x with
    | none => simp only [cOp, hx] at e; exact (bad_no rfl e).elim
    | some f => simp only [cOp, hx] at e; exact s_nilck (call := call) (t := t) H ho (opd_conc T hx) e
  case unOp op ty x =>
    cases op <;> try (exact (bad_no rfl e).elim)
    case not =>
      cases hx : cOpd x with
      | none => simp only [cOp, hx] at e; exact (bad_no rfl e).elim
      | some f => simp only [cOp, hx] at e; unfold execOp; simp only [ho]; exact s_not (call := call) (t := t) H (opd_conc T hx).1 e
    case neg =>
      cases hx : cOpd x with
      | none => simp only [cOp, hx] at e; exact (bad_no rfl e).elim
      | some f => simp only [cOp, hx] at e; unfold execOp; simp only [ho]; exact s_neg (call := call) (t := t) H (opd_conc T hx).1 e
  case convert s d x =>
    cases hus : P.underlying s with
    | none => simp only [cOp, hus] at e; exact (bad_no rfl e).elim
    | some ds =>
      cases hud : P.underlying d with
      | none => simp only [cOp, hus, hud] at e; cases ds <;> exact (bad_no rfl e).elim
      | some dd =>
        cases ds <;> try (simp only [cOp, hus, hud] at e; exact (bad_no rfl e).elim)
        case int k0 =>
          cases dd <;> try (simp only [cOp, hus, hud] at e; exact (bad_no rfl e).elim)
          case int k =>
            cases hx : cOpd x with
            | none => simp only [cOp, hus, hud, hx] at e; exact (bad_no rfl e).elim
            | some f => simp only [cOp, hus, hud, hx] at e; unfold execOp; simp only [ho]; exact s_conv (call := call) (t := t) H hus hud (opd_conc T hx).1 e
  case makeFunc fn first captured =>
    cases fn <;> try (exact (bad_no rfl e).elim)
    case func f =>
      cases hf : first.isEmpty with
      | false => simp only [cOp, hf] at e; exact (bad_no rfl e).elim
      | true =>
        cases hc : cOpds captured.toList with
        | none => simp only [cOp, hf, hc] at e; exact (bad_no rfl e).elim
        | some l =>
          simp only [cOp, hf, hc] at e
          unfold execOp; simp only [ho]
          have h1 : first = #[] := by simpa using hf
          have h2' : captured.map a.eval = (captured.toList.map a.eval).toArray := by apply Array.ext'; simp
          have h3 : first.map a.eval = #[] := by rw [h1]; simp
          rw [h2', h3]
          exact s_mkfn (call := call) (t := t) H (opds_conc T hc) e
  case makeMap ty r =>
    cases r with
    | none => unfold execOp; simp only [ho]; exact s_mkmap (call := call) (t := t) H e
    | some x => exact (bad_no rfl e).elim
  case makeSlice ty l c =>
    cases hu : P.underlying ty with
    | none => simp only [cOp, hu] at e; exact (bad_no rfl e).elim
    | some d =>
      cases d <;> try (simp only [cOp, hu] at e; exact (bad_no rfl e).elim)
      case slice el =>
        cases hi : P.info? el with
        | none => simp only [cOp, hu, hi] at e; exact (bad_no rfl e).elim
        | some i =>
          cases hz : zeroT P el with
          | none => simp only [cOp, hu, hi, hz] at e; exact (bad_no rfl e).elim
          | some z =>
            simp only [cOp, hu, hi, hz] at e
            cases hb : (Nat.beq z.cells.length i.size && !Nat.beq i.size 0) with
            | false => rw [hb] at e; exact (bad_no rfl e).elim
            | true =>
              rw [hb] at e
              simp only [Bool.and_eq_true, Bool.not_eq_true'] at hb
              cases hl : cOpd l with
              | none => simp only [hl] at e; exact (bad_no rfl e).elim
              | some fl =>
                cases hc : cOpd c with
                | none => simp only [hl, hc] at e; exact (bad_no rfl e).elim
                | some fc =>
                  simp only [hl, hc] at e
                  unfold execOp; simp only [ho]
                  exact s_mkslice (call := call) (t := t) H hu hi hz (beq_true hb.1) (beq_false hb.2) (opd_conc T hl).1 (opd_conc T hc).1 e
  case slice ty x lo hi mx =>
    cases hu : P.underlying ty with
    | none => simp only [cOp, hu] at e; exact (bad_no rfl e).elim
    | some d =>
      cases d <;> try (simp only [cOp, hu] at e; exact (bad_no rfl e).elim)
      case slice el =>
        cases hi' : P.info? el with
        | none => simp only [cOp, hu, hi'] at e; exact (bad_no rfl e).elim
        | some i =>
          simp only [cOp, hu, hi'] at e
          cases hb : (mx.isSome && !hi.isSome) with
          | true => rw [hb] at e; exact (bad_no rfl e).elim
          | false =>
            rw [hb] at e
            cases hx : cOpd x with
            | none => simp only [hx] at e; exact (bad_no rfl e).elim
            | some fx =>
              cases hlo : cOpt lo with
              | none => simp only [hx, hlo] at e; exact (bad_no rfl e).elim
              | some fl =>
                cases hhi : cOpt hi with
                | none => simp only [hx, hlo, hhi] at e; exact (bad_no rfl e).elim
                | some fh =>
                  cases hmx : cOpt mx with
                  | none => simp only [hx, hlo, hhi, hmx] at e; exact (bad_no rfl e).elim
                  | some fm =>
                    simp only [hx, hlo, hhi, hmx] at e
                    unfold execOp; simp only [ho]
                    exact s_slice (call := call) (t := t) H T hu hi' hx hlo hhi hmx (fun hm => by
                      cases hh : hi.isSome with
                      | true => rfl
                      | false => rw [hm, hh] at hb; cases hb) e
      case string =>
        simp only [cOp, hu] at e
        cases mx with
        | some m => exact (bad_no rfl e).elim
        | none =>
          simp only [Option.isSome_none, cond_false] at e
          cases hx : cOpd x with
          | none => simp only [hx] at e; exact (bad_no rfl e).elim
          | some fx =>
            cases hlo : cOpt lo with
            | none => simp only [hx, hlo] at e; exact (bad_no rfl e).elim
            | some fl =>
              cases hhi : cOpt hi with
              | none => simp only [hx, hlo, hhi] at e; exact (bad_no rfl e).elim
              | some fh =>
                simp only [hx, hlo, hhi] at e
                unfold execOp; simp only [ho]
                exact s_sslice (call := call) (t := t) H T hu hx hlo hhi e
  case fieldAddr ty x f =>
    cases hu : P.underlying ty with
    | none => simp only [cOp, hu] at e; exact (bad_no rfl e).elim
    | some d =>
      cases d <;> try (simp only [cOp, hu] at e; exact (bad_no rfl e).elim)
      case struct fs =>
        cases hf : fs[f]? with
        | none => simp only [cOp, hu, hf] at e; exact (bad_no rfl e).elim
        | some fd =>
          cases hi : P.info? fd.type with
          | none => simp only [cOp, hu, hf, hi] at e; exact (bad_no rfl e).elim
          | some i =>
            simp only [cOp, hu, hf, hi] at e
            cases hb : Nat.beq i.size 0 with
            | true => rw [hb] at e; exact (bad_no rfl e).elim
            | false =>
              rw [hb] at e
              cases hx : cOpd x with
              | none => simp only [hx] at e; exact (bad_no rfl e).elim
              | some g => simp only [hx] at e; unfold execOp; simp only [ho]; exact s_foff (call := call) (t := t) H hu hf hi hb (opd_conc T hx) e
  case field ty x f =>
    cases hu : P.underlying ty with
    | none => simp only [cOp, hu] at e; exact (bad_no rfl e).elim
    | some d =>
      cases d <;> try (simp only [cOp, hu] at e; exact (bad_no rfl e).elim)
      case struct fs =>
        cases hf : fs[f]? with
        | none => simp only [cOp, hu, hf] at e; exact (bad_no rfl e).elim
        | some fd =>
          cases hx : cOpd x with
          | none => simp only [cOp, hu, hf, hx] at e; exact (bad_no rfl e).elim
          | some g =>
            cases hs : sizeT P fd.type with
            | none => simp only [cOp, hu, hf, hx, hs] at e; exact (bad_no rfl e).elim
            | some n => simp only [cOp, hu, hf, hx, hs] at e; unfold execOp; simp only [ho]; exact s_field (call := call) (t := t) H hu hf hs (opd_conc T hx) e
  case indexAddr ty x i =>
    cases hu : P.underlying ty with
    | none => simp only [cOp, hu] at e; exact (bad_no rfl e).elim
    | some d =>
      cases d <;> try (simp only [cOp, hu] at e; exact (bad_no rfl e).elim)
      case slice el =>
        cases hi : P.info? el with
        | none => simp only [cOp, hu, hi] at e; exact (bad_no rfl e).elim
        | some info =>
          cases hx : cOpd x with
          | none => simp only [cOp, hu, hi, hx] at e; exact (bad_no rfl e).elim
          | some g =>
            cases hj : cOpd i with
            | none => simp only [cOp, hu, hi, hx, hj] at e; exact (bad_no rfl e).elim
            | some k => simp only [cOp, hu, hi, hx, hj] at e; unfold execOp; simp only [ho]; exact s_ixs (call := call) (t := t) H hu hi (opd_conc T hx) (opd_conc T hj).1 e
      case array len el =>
        cases hi : P.info? el with
        | none => simp only [cOp, hu, hi] at e; exact (bad_no rfl e).elim
        | some info =>
          cases hx : cOpd x with
          | none => simp only [cOp, hu, hi, hx] at e; exact (bad_no rfl e).elim
          | some g =>
            cases hj : cOpd i with
            | none => simp only [cOp, hu, hi, hx, hj] at e; exact (bad_no rfl e).elim
            | some k => simp only [cOp, hu, hi, hx, hj] at e; unfold execOp; simp only [ho]; exact s_ixarr (call := call) (t := t) H hu hi (opd_conc T hx) (opd_conc T hj).1 e
  case index ty x i =>
    cases hu : P.underlying ty with
    | none => simp only [cOp, hu] at e; exact (bad_no rfl e).elim
    | some d =>
      cases d <;> try (simp only [cOp, hu] at e; exact (bad_no rfl e).elim)
      case array len el =>
        cases hi : P.info? el with
        | none => simp only [cOp, hu, hi] at e; exact (bad_no rfl e).elim
        | some info =>
          cases hs : sizeT P el with
          | none => simp only [cOp, hu, hi, hs] at e; exact (bad_no rfl e).elim
          | some n =>
            cases hx : cOpd x with
            | none => simp only [cOp, hu, hi, hs, hx] at e; exact (bad_no rfl e).elim
            | some g =>
              cases hj : cOpd i with
              | none => simp only [cOp, hu, hi, hs, hx, hj] at e; exact (bad_no rfl e).elim
              | some k => simp only [cOp, hu, hi, hs, hx, hj] at e; unfold execOp; simp only [ho]; exact s_ixagg (call := call) (t := t) H hu hi hs (opd_conc T hx) (opd_conc T hj).1 e
      case string =>
        cases hx : cOpd x with
        | none => simp only [cOp, hu, hx] at e; exact (bad_no rfl e).elim
        | some g =>
          cases hj : cOpd i with
          | none => simp only [cOp, hu, hx, hj] at e; exact (bad_no rfl e).elim
          | some k => simp only [cOp, hu, hx, hj] at e; unfold execOp; simp only [ho]; exact s_ixstr (call := call) (t := t) H hu (opd_conc T hx).1 (opd_conc T hj).1 e
  case lookup ty m k ok =>
    cases hu : P.underlying ty with
    | none => simp only [cOp, hu] at e; exact (bad_no rfl e).elim
    | some d =>
      cases d <;> try (simp only [cOp, hu] at e; exact (bad_no rfl e).elim)
      case map kt el =>
        cases hk : keyT P kt with
        | none => simp only [cOp, hu, hk] at e; exact (bad_no rfl e).elim
        | some ks =>
          cases hz : zeroT P el with
          | none => simp only [cOp, hu, hk, hz] at e; exact (bad_no rfl e).elim
          | some z =>
            cases hm : cOpd m with
            | none => simp only [cOp, hu, hk, hz, hm] at e; exact (bad_no rfl e).elim
            | some fm =>
              cases hkk : cOpd k with
              | none => simp only [cOp, hu, hk, hz, hm, hkk] at e; exact (bad_no rfl e).elim
              | some fk => simp only [cOp, hu, hk, hz, hm, hkk] at e; unfold execOp; simp only [ho]; exact s_lookup (call := call) (t := t) H hu hk hz (opd_conc T hm).1 (opd_conc T hkk).1 e
  case mapUpdate ty m k x =>
    cases hu : P.underlying ty with
    | none => simp only [cOp, hu] at e; exact (bad_no rfl e).elim
    | some d =>
      cases d <;> try (simp only [cOp, hu] at e; exact (bad_no rfl e).elim)
      case map kt el =>
        cases hk : keyT P kt with
        | none => simp only [cOp, hu, hk] at e; exact (bad_no rfl e).elim
        | some ks =>
          cases hm : cOpd m with
          | none => simp only [cOp, hu, hk, hm] at e; exact (bad_no rfl e).elim
          | some fm =>
            cases hkk : cOpd k with
            | none => simp only [cOp, hu, hk, hm, hkk] at e; exact (bad_no rfl e).elim
            | some fk =>
              cases hx : cOpd x with
              | none => simp only [cOp, hu, hk, hm, hkk, hx] at e; exact (bad_no rfl e).elim
              | some fx => simp only [cOp, hu, hk, hm, hkk, hx] at e; unfold execOp; simp only [ho]; exact s_mupd (call := call) (t := t) H hu hk (opd_conc T hm).1 (opd_conc T hkk) (opd_conc T hx) e
  case insert ty m k x =>
    cases hu : P.underlying ty with
    | none => simp only [cOp, hu] at e; exact (bad_no rfl e).elim
    | some d =>
      cases d <;> try (simp only [cOp, hu] at e; exact (bad_no rfl e).elim)
      case map kt el =>
        cases hk : keyT P kt with
        | none => simp only [cOp, hu, hk] at e; exact (bad_no rfl e).elim
        | some ks =>
          cases hm : cOpd m with
          | none => simp only [cOp, hu, hk, hm] at e; exact (bad_no rfl e).elim
          | some fm =>
            cases hkk : cOpd k with
            | none => simp only [cOp, hu, hk, hm, hkk] at e; exact (bad_no rfl e).elim
            | some fk =>
              cases hx : cOpd x with
              | none => simp only [cOp, hu, hk, hm, hkk, hx] at e; exact (bad_no rfl e).elim
              | some fx => simp only [cOp, hu, hk, hm, hkk, hx] at e; unfold execOp; simp only [ho]; exact s_mupd (call := call) (t := t) H hu hk (opd_conc T hm).1 (opd_conc T hkk) (opd_conc T hx) e
  case extract x i =>
    cases hx : cOpd x with
    | none => simp only [cOp, hx] at e; exact (bad_no rfl e).elim
    | some f => simp only [cOp, hx] at e; unfold execOp; simp only [ho]; exact s_extract (call := call) (t := t) H (opd_conc T hx) e
  case binOp op ty x y yt =>
    cases hu : P.underlying ty with
    | none => simp only [cOp, hu] at e; exact (bad_no rfl e).elim
    | some d =>
      cases hx : cOpd x with
      | none =>
        exfalso
        revert e
        cases d <;> cases op <;> simp only [cOp, hu, hx] <;> first | (intro e; exact bad_no rfl e) | (cases P.eqGuardType P.depth ty <;> cases keyT P ty <;> (intro e; exact bad_no rfl e))
      | some fx =>
        cases hy : cOpd y with
        | none =>
          exfalso
          revert e
          cases d <;> cases op <;> simp only [cOp, hu, hx, hy] <;> first | (intro e; exact bad_no rfl e) | (cases P.eqGuardType P.depth ty <;> cases keyT P ty <;> (intro e; exact bad_no rfl e))
        | some fy =>
          have ox := opd_conc T hx
          have oy := opd_conc T hy
          unfold execOp; simp only [ho]
          -- equality of bools and structs
          have eq_case : (∀ k, d ≠ .int k) → d ≠ .string → ∀ neg : Bool, op = (bif neg then .neq else .eql) →
              orBad (bif P.eqGuardType P.depth ty then none else do pure (opEq (← keyT P ty) neg fx fy)) call t h = some (v, h2) →
              Done w0 S φ h v h2 ((do pure (Next.value (← (do eqGuard op ty x y (a.eval x) (a.eval y); binOp op ty (a.eval x) (a.eval y)))) : Sem Next).run P w) := by
            intro hni hns neg hop e
            cases hg : P.eqGuardType P.depth ty with
            | true => rw [hg] at e; exact (bad_no rfl e).elim
            | false =>
              rw [hg] at e
              cases hk : keyT P ty with
              | none => rw [hk] at e; exact (bad_no rfl e).elim
              | some ks =>
                rw [hk] at e
                exact s_eq (call := call) H hop hg hk (fun j hj => hni j (by rw [hu] at hj; exact Option.some.inj hj)) (fun hj => hns (by rw [hu] at hj; exact Option.some.inj hj)) ox.1 oy.1 e
          cases d
          case int k =>
            by_cases h1 : op = .shl
            · subst h1; simp only [cOp, hu, hx, hy] at e; exact s_shift (call := call) H (.inl ⟨rfl, rfl⟩) ox.1 oy.1 e
            · by_cases h2' : op = .shr
              · subst h2'; simp only [cOp, hu, hx, hy] at e; exact s_shift (call := call) H (.inr ⟨rfl, rfl⟩) ox.1 oy.1 e
              · have e' : opInt (intFn op) fx fy call t h = some (v, h2) := by
                  cases op <;> simp only [cOp, hu, hx, hy] at e <;> first | exact e | exact absurd rfl h1 | exact absurd rfl h2'
                exact s_int (call := call) H ox.1 oy.1 e'
          case string => simp only [cOp, hu, hx, hy] at e; exact s_str (call := call) H ox.1 oy.1 e
          case slice el =>
            cases op <;> simp only [cOp, hu, hx, hy] at e <;> try (exact (bad_no rfl e).elim)
            case eql => exact s_nilS (call := call) H (neg := false) rfl hu ox.1 oy.1 e
            case neq => exact s_nilS (call := call) H (neg := true) rfl hu ox.1 oy.1 e
          case func ps rs va =>
            cases op <;> simp only [cOp, hu, hx, hy] at e <;> try (exact (bad_no rfl e).elim)
            case eql => exact s_nilF (call := call) H (neg := false) rfl hu ox.1 oy.1 e
            case neq => exact s_nilF (call := call) H (neg := true) rfl hu ox.1 oy.1 e
          all_goals
            cases op <;> simp only [cOp, hu, hx, hy] at e <;> first
              | exact eq_case (by intro k hk; cases hk) (by intro hk; cases hk) false rfl e
              | exact eq_case (by intro k hk; cases hk) (by intro hk; cases hk) true rfl e
              | (exfalso; revert e; cases P.eqGuardType P.depth ty <;> (intro e; exact bad_no rfl e))
  case call c =>
    obtain ⟨callee, args, argTypes⟩ := c
    cases callee with
    | value f => cases hp
    | invoke r m => cases hp
    | builtin b =>
      cases b <;> try (simp only [cOp] at e; exact (bad_no rfl e).elim)
      case len =>
        cases hat : argTypes[0]? with
        | none => simp only [cOp, hat] at e; exact (bad_no rfl e).elim
        | some ty =>
          cases har : args[0]? with
          | none => simp only [cOp, hat, har] at e; exact (bad_no rfl e).elim
          | some x =>
            cases hu : P.underlying ty with
            | none => simp only [cOp, hat, har, hu] at e; exact (bad_no rfl e).elim
            | some d =>
              have ha : (args.map a.eval)[0]? = some (a.eval x) := by simp [har]
              unfold execOp; simp only [ho]
              simp only [resolve, invoke, builtin, pure, bind, Sem.bind]
              cases d <;> try (simp only [cOp, hat, har, hu] at e; exact (bad_no rfl e).elim)
              case array len el =>
                simp only [cOp, hat, har, hu] at e
                cases e
                refine Done.same H ?_ (run_val ?_)
                · exact trivial
                · simp [Builtin.len_, hat, ha, run_underlying hu, goInt, concA_int]; rfl
              case string =>
                cases hx : cOpd x with
                | none => simp only [cOp, hat, har, hu, hx] at e; exact (bad_no rfl e).elim
                | some f => simp only [cOp, hat, har, hu, hx] at e; exact s_lenS (call := call) H hu (opd_conc T hx).1 hat ha e
              case slice el =>
                cases hx : cOpd x with
                | none => simp only [cOp, hat, har, hu, hx] at e; exact (bad_no rfl e).elim
                | some f => simp only [cOp, hat, har, hu, hx] at e; exact s_lenL (call := call) H hu (opd_conc T hx).1 hat ha e
              case map k el =>
                cases hx : cOpd x with
                | none => simp only [cOp, hat, har, hu, hx] at e; exact (bad_no rfl e).elim
                | some f => simp only [cOp, hat, har, hu, hx] at e; exact s_lenM (call := call) H hu (opd_conc T hx).1 hat ha e
      case append =>
        obtain ⟨ats⟩ := argTypes
        obtain ⟨ars⟩ := args
        cases ats with
        | nil => simp only [cOp] at e; exact (bad_no rfl e).elim
        | cons ty ats =>
          cases ats with
          | nil => simp only [cOp] at e; exact (bad_no rfl e).elim
          | cons tx ats =>
            cases ats with
            | cons _ _ => simp only [cOp] at e; exact (bad_no rfl e).elim
            | nil =>
              cases ars with
              | nil => simp only [cOp] at e; exact (bad_no rfl e).elim
              | cons s ars =>
                cases ars with
                | nil => simp only [cOp] at e; exact (bad_no rfl e).elim
                | cons x ars =>
                  cases ars with
                  | cons _ _ => simp only [cOp] at e; exact (bad_no rfl e).elim
                  | nil =>
                    simp only [cOp] at e
                    cases hu : P.underlying ty with
                    | none => rw [hu] at e; exact (bad_no rfl e).elim
                    | some d =>
                      rw [hu] at e
                      cases d <;> try (exact (bad_no rfl e).elim)
                      case slice el =>
                        simp only at e
                        cases hi : P.info? el with
                        | none => rw [hi] at e; exact (bad_no rfl e).elim
                        | some i =>
                          cases hz : zeroT P el with
                          | none => rw [hi, hz] at e; exact (bad_no rfl e).elim
                          | some z =>
                            rw [hi, hz] at e
                            simp only at e
                            cases hb : (Nat.beq z.cells.length i.size && !Nat.beq i.size 0) with
                            | false => rw [hb] at e; exact (bad_no rfl e).elim
                            | true =>
                              rw [hb] at e
                              simp only [Bool.and_eq_true] at hb
                              cases hu2 : P.underlying tx with
                              | none => rw [hu2] at e; exact (bad_no rfl e).elim
                              | some d2 =>
                                rw [hu2] at e
                                cases hs : cOpd s with
                                | none => rw [hs] at e; cases d2 <;> exact (bad_no rfl e).elim
                                | some fs =>
                                  cases hx : cOpd x with
                                  | none => rw [hs, hx] at e; cases d2 <;> exact (bad_no rfl e).elim
                                  | some fx =>
                                    rw [hs, hx] at e
                                    unfold execOp; simp only [ho]
                                    simp only [resolve, invoke, builtin, pure, bind, Sem.bind]
                                    have hmm : Array.map a.eval ⟨[s, x]⟩ = #[a.eval s, a.eval x] := by simp
                                    rw [hmm]
                                    cases d2 <;> try (exact (bad_no rfl e).elim)
                                    case slice el2 => exact s_append (call := call) H hu hi hz (beq_true hb.1) (.inl ⟨rfl, _, hu2⟩) (opd_conc T hs) (opd_conc T hx).1 e
                                    case string => exact s_append (call := call) H hu hi hz (beq_true hb.1) (.inr ⟨rfl, hu2⟩) (opd_conc T hs) (opd_conc T hx).1 e
      case clear =>
        cases hat : argTypes[0]? with
        | none => simp only [cOp, hat] at e; exact (bad_no rfl e).elim
        | some ty =>
          cases har : args[0]? with
          | none => simp only [cOp, hat, har] at e; exact (bad_no rfl e).elim
          | some x =>
            cases hu : P.underlying ty with
            | none => simp only [cOp, hat, har, hu] at e; exact (bad_no rfl e).elim
            | some d =>
              cases d <;> try (simp only [cOp, hat, har, hu] at e; exact (bad_no rfl e).elim)
              case slice el =>
                cases hi : P.info? el with
                | none => simp only [cOp, hat, har, hu, hi] at e; exact (bad_no rfl e).elim
                | some i =>
                  cases hz : zeroT P el with
                  | none => simp only [cOp, hat, har, hu, hi, hz] at e; exact (bad_no rfl e).elim
                  | some z =>
                    simp only [cOp, hat, har, hu, hi, hz] at e
                    cases hb : (Nat.beq z.cells.length i.size && !Nat.beq i.size 0) with
                    | false => rw [hb] at e; exact (bad_no rfl e).elim
                    | true =>
                      rw [hb] at e
                      simp only [Bool.and_eq_true, Bool.not_eq_true'] at hb
                      cases hx : cOpd x with
                      | none => rw [hx] at e; exact (bad_no rfl e).elim
                      | some f =>
                        rw [hx] at e
                        have ha : (args.map a.eval)[0]? = some (a.eval x) := by simp [har]
                        unfold execOp; simp only [ho]
                        simp only [resolve, invoke, builtin, pure, bind, Sem.bind]
                        exact s_clear (call := call) H hu hi hz (beq_true hb.1) (beq_false hb.2) (opd_conc T hx).1 hat ha e
      case max =>
        simp only [cOp] at e
        cases hx : args.toList with
        | nil => rw [hx] at e; exact (bad_no rfl e).elim
        | cons x xs =>
          rw [hx] at e
          simp only [cOpds] at e
          cases h1 : cOpd x with
          | none => rw [h1] at e; exact (bad_no rfl e).elim
          | some f =>
            cases h2' : cOpds xs with
            | none => rw [h1, h2'] at e; exact (bad_no rfl e).elim
            | some fs =>
              rw [h1, h2'] at e
              unfold execOp; simp only [ho]
              simp only [resolve, invoke, builtin, pure, bind, Sem.bind]
              refine s_minmax (call := call) (isMax := true) H T h1 h2' (s := fun as => Builtin.max_ _ _ as) (fun as ha => ?_) (by simp [hx]) e
              unfold Builtin.max_
              rw [ha]
              rfl
      case min =>
        simp only [cOp] at e
        cases hx : args.toList with
        | nil => rw [hx] at e; exact (bad_no rfl e).elim
        | cons x xs =>
          rw [hx] at e
          simp only [cOpds] at e
          cases h1 : cOpd x with
          | none => rw [h1] at e; exact (bad_no rfl e).elim
          | some f =>
            cases h2' : cOpds xs with
            | none => rw [h1, h2'] at e; exact (bad_no rfl e).elim
            | some fs =>
              rw [h1, h2'] at e
              unfold execOp; simp only [ho]
              simp only [resolve, invoke, builtin, pure, bind, Sem.bind]
              refine s_minmax (call := call) (isMax := false) H T h1 h2' (s := fun as => Builtin.min_ _ _ as) (fun as ha => ?_) (by simp [hx]) e
              unfold Builtin.min_
              rw [ha]
              rfl

end
end Go.CE
