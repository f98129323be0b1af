/-
  Lemmas: CEmc, CEn, CEo, CEp, CEr, CEs, CEt, CEta, CEtb, CEtc, CEtd, CEte, CEtf. No condition.
-/
import Derived.Test.YthfdnggfegbbkaaGreatDoorVa
import Derived.Lib.Builder
import Derived.Lib.UnsafeStr
import Derived.Lib.Bytealg
import Derived.Laws.Externs
import Derived.Laws.Pointers
import Derived.LaidEqlPtr
import Derived.TacticsIn
import Derived.RangeFuncRecord
import Derived.RangeFuncNested
import Derived.LoopNIn
import Derived.OrdersIn
section
namespace Go.CE
open Go.RowKit
section
variable {P : Program} {w0 : World} {S : Nat → Prop} {φ : Phi} {h h2 : AHeap} {w w2 : World} {nt : Nat} {t : Tr AVal} {a : Act} {v : AVal} {call : zh}
theorem zbY (H : HRel w0 S φ h w) (cs : List CVal) (hcs : ∀ c ∈ cs, wfC φ h.n.toNat c) (e : TypeId) (var : Bool) (cells : Array Value) (cap : Nat)
  (hc : ∀ (i : Nat) (c : CVal), cs[i]? = some c → cells[i]? = some (zi φ c)) (hcap : cap ≤ cells.size) (hv : var = true → cells.size = cs.length) :
  HRel w0 S (upd φ h.n ⟨w.heap.size, 0, cap, true, none⟩) (h.new (.tcells cs e var)) (w.alloc (.cells cells e)) := by
 refine H.new _ _ ⟨w.heap.size, 0, cap, true, none⟩ rfl ?_;refine ⟨cells, ?_, fun i c hi => ?_, by rw [zm], by rw [zm]; exact hcap, hv, fun c hc => zaj (z4 φ h.n _) (Nat.le_succ _) (hcs c hc)⟩
 ·rw [zm]; exact heap_alloc_new w _
 ·rw [vO (z4 φ h.n _) (hcs c (Lz3 hi))];exact hc i c hi
theorem zlV (H : HRel w0 S φ h w) {ty : TypeId} {z : SVal} (hz : zZ P ty = some z) (e : zab ty z.cells call t h = some (v, h2)) :
  Done w0 S φ h v h2 ((do pure (Next.value (← Instr.alloc ty true (.tuple #[]))) : Sem Next).run P w) := by
 obtain ⟨i, zv, hi, hzv, hcz, hwz⟩ := yH (φ := φ) hz;have hrun : (Instr.alloc ty true (.tuple #[])).run P w = .ok (.pointer (some ⟨w.heap.size, 0, none⟩)) (w.alloc (.cells (z.cells.map (zi φ)).toArray ty)) := by
  have hz' : (zeroValue ty).run P w = .ok zv w := by simp [zeroValue, typeInfo, hi, hzv]
  simp only [Instr.alloc, Sem.run_bind, hz', Result.andThen_ok, newVar, newRow];rw [← hcz, yx];simp
 obtain ⟨rfl, rfl⟩ := xY e;refine ⟨upd φ h.n ⟨w.heap.size, 0, 0, true, none⟩, _, .inl (zq ?_), z4 _ _ _, zbY H z.cells (fun c hc => yS (Nat.zero_le _) (hwz c hc)) ty true (z.cells.map (zi φ)).toArray 0 (fun i c hi => by rw [List.getElem?_toArray, Lz6, hi]; rfl) (by simp) (fun _ => by simp), ⟨by rw [yi]; omega, by rw [zm]⟩, by rw [yi]; omega⟩
 rw [hrun];simp [zo, zF, zi, adr, Addr.add, zm]
theorem jG {e : TypeId} (h : xz P e = true) : ∃ i, P.info? e = some i ∧ i.size ≠ 0 := by
 unfold xz at h;split at h
 ·rename_i i hi; exact ⟨i, hi, beq_false (by simpa using h)⟩
 ·cases h
theorem zfg {tp te : TypeId} {j : TypeInfo} (hp : P.underlying tp = some (.pointer te)) (hte : P.info? te = some j) (hj : j.size ≠ 0) {x y : CVal} {q : Bool} (e : eqP x y = some q) :
  (Op.equal tp (zi φ x) (zi φ y)).run P w = .ok q w := by
 have hd : ∀ d : Nat, (Op.equalIn (d + 1) tp (zi φ x) (zi φ y)).run P w = .ok q w := by
  intro d;unfold eqP at e;split at e
  ·cases e; simp [zi, Op.equalIn, run_underlying hp]
  ·cases e; simp [zi, Op.equalIn, run_underlying hp]
  ·cases e; simp [zi, Op.equalIn, run_underlying hp]
  ·rename_i b o b' o';cases hb : eqBN b b' with
   | false => rw [hb] at e; cases e
   | true =>
    rw [hb] at e;have hbb : b = b' := by
     have key : ∀ {a b : BN}, eqBN a b = true → a = b := by
      intro a
      induction a with
      | z => intro b h; cases b <;> first | rfl | cases h
      | o n ih => intro b h; cases b with
       | o m => rw [ih (b := m) h]
       | _ => cases h
      | d n ih => intro b h; cases b with
       | d m => rw [ih (b := m) h]
       | _ => cases h
     exact key hb
    subst hbb;cases e;have hsame : (sameAddr (adr φ b o) (adr φ b o')).run P w = .ok (Nat.beq o o') w := by
     have e1 : ((adr φ b o) == (adr φ b o')) = Nat.beq o o' := by
      by_cases ho : o = o'
      ·subst ho; simp
      ·have : Nat.beq o o' = false := by
        cases hq : Nat.beq o o' with
        | false => rfl
        | true => exact absurd (Lz1 hq) ho
       rw [this];unfold adr Addr.add;by_cases h1 : o = 0 <;> by_cases h2 : o' = 0 <;> simp_all
     have e2 : ((adr φ b o).block == (adr φ b o').block) = true := by unfold adr Addr.add; by_cases h1 : o = 0 <;> by_cases h2 : o' = 0 <;> simp [h1, h2]
     simp only [sameAddr, e2, if_true];rw [e1];rfl
    simp [zi, Op.equalIn, run_underlying hp, sizeOf, typeInfo, hte, hj, hsame]
  ·cases e
 simp only [Op.equal, Op.maxDepth];exact hd 9999
theorem zfT (op : BinOp) (ty : TypeId) (x y : Operand) {c d : CVal} {q : Bool} (e : eqP c d = some q) : (eqGuard op ty x y (zi φ c) (zi φ d)).run P w = .ok () w := by
 unfold eqP at e;split at e <;> first | (cases e; done) | (unfold eqGuard; cases op <;> rfl)
theorem zjb (H : HRel w0 S φ h w) {op : BinOp} {neg : Bool} (hop : op = bif neg then .neq else .eql) {ty te : TypeId} (hu : P.underlying ty = some (.pointer te)) (hs : xz P te = true) {xo yo : Operand} {x y : Opd} {vx vy : Value}
  (hx : vx = zo φ (x t)) (hy : vy = zo φ (y t)) (e : wG neg x y call t h = some (v, h2)) :
  Done w0 S φ h v h2 ((do pure (Next.value (← (do eqGuard op ty xo yo vx vy; binOp op ty vx vy))) : Sem Next).run P w) := by
 obtain ⟨j, hj, hj0⟩ := jG hs;unfold wG at e;split at e
 ·rename_i c d hxe hye;split at e
  ·rename_i q hq;cases e;refine Done.same H ?_ (zq ?_)
   ·exact trivial
   rw [hx, hy, hxe, hye, vQ, hop];have hg := zfT (P := P) (w := w) (φ := φ) (bif neg then .neq else .eql) ty xo yo hq
   have hr := zfg (P := P) (w := w) (φ := φ) hu hj hj0 hq;have e1 : zo φ (.s (.one c)) = zi φ c := rfl;have e2 : zo φ (.s (.one d)) = zi φ d := rfl;rw [e1, e2, Sem.run_bind, hg];simp only [Result.andThen_ok];have hb : ∀ (o : BinOp), o = (bif neg then .neq else .eql) → (binOp o ty (zi φ c) (zi φ d)).run P w = .ok (.bool (bif neg then !q else q)) w := by
    intro o ho;unfold eqP at hq;split at hq <;> first | (cases hq; done) | (cases neg <;> subst ho <;> simp only [zi, cond_true, cond_false, binOp] <;> simp only [zi] at hr <;> simp [hr])
   exact hb _ rfl
  ·cases e
 ·cases e
theorem zoo (H : HRel w0 S φ h w) {b : BN} {cs : List CVal} {ty : Nat} {var : Bool} (hb : h.t.get b = some (.tcells cs ty var)) : ∃ arr, w.heap[(φ b).blk]? = some (.cells arr ty (0, 0)) ∧ (φ b).base = 0 ∧ cs.length ≤ arr.size ∧
  (var = true → arr.size = cs.length) ∧ w.shape? (φ b).blk = some (ty, arr.size) := by
 obtain ⟨arr, h1, h2', h3, h4, h5, h6⟩ := H.obj b _ hb;refine ⟨arr, h1, h3, ?_, h5, by simp [World.shape?, h1]⟩
 rcases Nat.eq_zero_or_pos cs.length with h0 | h0
 ·omega
 ·have := h2' (cs.length - 1) cs[cs.length - 1] (Lz5 (by omega))
  have := (Lz7.1 this).1;omega
theorem zsK (H : HRel w0 S φ h w) {src dst te : TypeId} (hs : P.underlying src = some (.pointer te)) (hd : P.underlying dst = some .unsafePointer) (hz : xz P te = true) {y : Value} {x : Opd} (hy : y = zo φ (x t) ∧ wfA φ h.n.toNat (x t))
  (ev : zcU x call t h = some (v, h2)) : Done w0 S φ h v h2 ((do pure (Next.value (← convert src dst y)) : Sem Next).run P w) := by
 obtain ⟨j, hj, hj0⟩ := jG hz;unfold zcU at ev;split at ev
 ·rename_i hx;cases ev;refine Done.same H ?_ (zq ?_)
  ·exact trivial
  rw [hy.1, hx];show (convert src dst (.pointer none)).run P w = _;simp [convert, run_underlying hs, run_underlying hd, Conv.unsafePointer, zo, zF, zi]
 ·rename_i b o hx;split at ev
  ·rename_i cs ty var hb;cases hle : Nat.ble (Nat.succ o) cs.length with
   | false => rw [hle] at ev; cases ev
   | true =>
    rw [hle] at ev;cases ev;rw [hx] at hy;obtain ⟨arr, h1, h3, h4, _, hsh⟩ := zoo H hb;refine Done.same H hy.2 (zq ?_);have ho := zQ hle;rw [hy.1, xe, H.adr hb trivial];exact Lib.run_to_unsafe w ⟨(φ b).blk, (φ b).base + o, none⟩ hs hd hj hj0 hsh (by show (φ b).base + o < arr.size; omega)
  ·cases ev
 ·cases ev
theorem zsI (H : HRel w0 S φ h w) {src dst u : TypeId} (hs : P.underlying src = some .unsafePointer) (hd : P.underlying dst = some (.pointer u)) (hz : zim P u = true) {y : Value} {x : Opd} (hy : y = zo φ (x t) ∧ wfA φ h.n.toNat (x t))
  (ev : zcT u (P.cellsOf u) x call t h = some (v, h2)) : Done w0 S φ h v h2 ((do pure (Next.value (← convert src dst y)) : Sem Next).run P w) := by
 unfold zim at hz;simp only [LzC] at hz;obtain ⟨⟨hl, hsz⟩, hc0⟩ := hz;obtain ⟨j, hj, hj0⟩ := jG hsz;have hc0 : P.cellsOf u ≠ 0 := beq_false (by simpa using hc0)
 unfold zcT at ev;split at ev
 ·rename_i hx;cases ev;refine Done.same H ?_ (zq ?_)
  ·exact trivial
  rw [hy.1, hx];show (convert src dst (.pointer none)).run P w = _;simp [convert, run_underlying hs, run_underlying hd, Conv.unsafePointer, zo, zF, zi]
 ·rename_i b o hx;cases ho : Nat.beq o 0 with
  | false => rw [ho] at ev; cases ev
  | true =>
   rw [ho] at ev;simp only [cond_true] at ev;split at ev
   ·rename_i cs ty var hb;cases hq : var && Nat.beq ty u && Nat.beq cs.length (P.cellsOf u) with
    | false => rw [hq] at ev; cases ev
    | true =>
     rw [hq] at ev;cases ev;simp only [LzC] at hq;obtain ⟨⟨hv, hty⟩, hlen⟩ := hq;have hty := beq_true hty;have hlen := beq_true hlen;have ho := beq_true ho;subst hty;subst ho;rw [hx] at hy;obtain ⟨arr, h1, h3, h4, h5, hsh⟩ := zoo H hb;refine Done.same H hy.2 (zq ?_);rw [hy.1, xe, H.adr hb trivial];refine Lib.run_from_unsafe w ⟨(φ b).blk, (φ b).base + 0, none⟩ hs hd hj hsh ?_;rw [h5 hv, hlen, Nat.div_self (by omega)]
     show liesAt P P.depth ty 1 ((φ b).base + 0) ty 1 = true;rw [h3];exact hl
   ·cases ev
 ·cases ev
theorem zff (H : HRel w0 S φ h w) {x : Opd} {y : Value} (hy : y = zo φ (x t) ∧ wfA φ h.n.toNat (x t)) {ats : Array TypeId} {rt : TypeId} (ev : wE x call t h = some (v, h2)) :
  Done w0 S φ h v h2 ((do pure (Next.value (← Builtin.unsafeSliceData_ ats rt #[y])) : Sem Next).run P w) := by
 unfold wE at ev;split at ev
 ·rename_i hx;cases ev;refine Done.same H ?_ (zq ?_)
  ·exact trivial
  rw [hy.1, hx];exact Lib.run_unsafeSliceData_nil w ats rt 0 0
 ·rename_i b off len cap ex hx;cases hle : Nat.ble 1 len with
  | false => rw [hle] at ev; cases ev
  | true =>
   rw [hle] at ev;cases ev;have hl := zQ hle;rw [hx] at hy;obtain ⟨hwb, hwu, hwe⟩ := hy.2;refine Done.same H ?_ (zq ?_)
   ·exact hwb
   rw [hy.1, z7];refine Lib.run_unsafeSliceData_row w ats rt (adr φ b off) len _ ?_;cases ex with
   | true => have := hwe rfl; simp only [cond_true]; omega
   | false => have := hwu rfl; simp only [cond_false]; omega
 ·cases ev
theorem zat : ∀ (ns : List Int) (r : ByteArray), zau ns r = ⟨r.data ++ (ns.map fun n => UInt8.ofNat n.toNat).toArray⟩
 | [], r => by simp [zau]
 | n :: ns, r => by
  simp only [zau];rw [zat ns _];simp [ByteArray.push]
theorem zcm : ∀ {ns : List Int}, zeM ns = true → ∀ n ∈ ns, ∃ m : Nat, n = .ofNat m ∧ m < 256
 | [], _, n, hn => by cases hn
 | .ofNat m :: ns, h, n, hn => by
  unfold zeM at h;simp only [LzC] at h;rcases List.mem_cons.1 hn with rfl | hn
  ·have := zQ h.1; exact ⟨m, rfl, by omega⟩
  ·exact zcm h.2 n hn
 | .negSucc m :: ns, h, n, hn => by cases h
theorem zeu (w : World) (g o n k : Nat) (hk : k ≠ g) : (w.freeze ⟨g, o, none⟩ n).heap[k]? = w.heap[k]? := by
 unfold World.freeze;split
 ·rfl
 ·simp [Array.getElem?_modify, Ne.symm hk]
theorem zfM (w : World) (g o n : Nat) {arr : Array Value} {e : TypeId} {fr : Nat × Nat} (h : w.heap[g]? = some (.cells arr e fr)) : ∃ fr', (w.freeze ⟨g, o, none⟩ n).heap[g]? = some (.cells arr e fr') := by
 unfold World.freeze;split
 ·exact ⟨fr, h⟩
 ·obtain ⟨lo, hi⟩ := fr;exact ⟨_, by simp [Array.getElem?_modify, h]; rfl⟩
theorem zfN (w : World) (a : Addr) (n : Nat) : (w.freeze a n).heap.size = w.heap.size ∧ (w.freeze a n).os = w.os ∧ (w.freeze a n).tape = w.tape ∧ (w.freeze a n).output = w.output := by
 unfold World.freeze;split
 ·exact ⟨rfl, rfl, rfl, rfl⟩
 ·exact ⟨by simp, rfl, rfl, rfl⟩
theorem zqC (H : HRel w0 S φ h w) {pt it rt e : TypeId} (hp : P.underlying pt = some (.pointer e)) (hc : P.cellsOf e = 1) {x m : Opd} {y z : Value} (hy : y = zo φ (x t)) (hz : z = zo φ (m t)) (ev : zd7 e x m call t h = some (v, h2)) :
  Done w0 S φ h v h2 ((do pure (Next.value (← Builtin.unsafeString_ #[pt, it] rt #[y, z])) : Sem Next).run P w) := by
 unfold zd7 at ev;split at ev
 ·rename_i n hm;have hz' : z = .int .i64 (n : Int) := by rw [hz, hm]; rfl
  subst hz';split at ev
  ·rename_i hx;cases hn : Nat.beq n 0 with
   | false => rw [hn] at ev; cases ev
   | true =>
    rw [hn] at ev;cases ev;obtain rfl := beq_true hn;refine Done.same H ?_ (zq ?_)
    ·exact trivial
    rw [hy, hx];exact Lib.run_unsafeString_none w pt it rt none
  ·rename_i b o hx;cases hq : Nat.beq o 0 && Nat.ble 1 n && Nat.ble n 9223372036854775807 with
   | false => rw [hq] at ev; cases ev
   | true =>
    rw [hq] at ev;simp only [cond_true] at ev;simp only [LzC] at hq;obtain ⟨⟨ho, hn1⟩, hn2⟩ := hq;obtain rfl := beq_true ho;have hn1 := zQ hn1;have hn2 := zQ hn2;split at ev
    ·rename_i cs ty var hb;cases hq2 : !var && Nat.beq ty e with
     | false => rw [hq2] at ev; cases ev
     | true =>
      rw [hq2] at ev;simp only [cond_true] at ev;simp only [LzC] at hq2;obtain rfl := beq_true hq2.2;unfold retU at ev;split at ev
      ·rename_i l hl;split at ev
       ·rename_i ns hns;cases hby : zeM ns with
        | false => rw [hby] at ev; cases ev
        | true =>
         rw [hby] at ev;cases ev;obtain ⟨k1, k2, k3⟩ := vN H hb hl;obtain ⟨arr, h1, h3, h4, _, hsh⟩ := zoo H hb;have hl' := zaM hns;have hmem := zcm hby;have hlen : ns.length = n := by rw [← k3, hl']; simp
         have hle : n ≤ cs.length := by
          have := (qd hl).2 (n - 1);rcases Nat.lt_or_ge (n - 1) l.length with hh | hh
          ·have := this l[n - 1] (Lz5 hh);have := (Lz0.1 this).1;omega
          ·omega
         have hcell : ∀ (j : Nat) (u : UInt8), (ns.map fun n => UInt8.ofNat n.toNat)[j]? = some u → w.cell? ((⟨(φ b).blk, 0, none⟩ : Addr).add j) = some (.int .u8 u.toNat) := by
          intro j u hu;rw [Lz6] at hu;cases hj : ns[j]? with
          | none => rw [hj] at hu; cases hu
          | some q =>
           rw [hj] at hu;simp only [Option.map_some, Option.some.injEq] at hu;obtain ⟨p, rfl, hp⟩ := hmem q (Lz3 hj);have := k1 j (.int .u8 (.ofNat p)) (by rw [hl', List.map_map, Lz6, hj]; rfl)
           have e1 : adr φ b 0 = ⟨(φ b).blk, 0, none⟩ := by rw [H.adr hb trivial, h3]
           rw [e1] at this;rw [this, ← hu];have e2 : (UInt8.ofNat p).toNat = p := by simp [UInt8.toNat_ofNat']; omega
           show some (Value.int .u8 (p : Int)) = some (.int .u8 ((UInt8.ofNat p).toNat : Int));rw [e2]
         have hrun := Lib.run_unsafeString_row w pt it rt ty hp hc (φ b).blk arr.size hsh (ns.map fun n => UInt8.ofNat n.toNat) (by
          intro hh;have := congrArg List.length hh;simp at this;rw [this] at hlen;simp at hlen;omega) (by simp; omega) (by simp; omega) hcell
         have e3 : ((ns.map fun n => UInt8.ofNat n.toNat).length : Int) = (n : Int) := by simp [hlen]
         rw [e3] at hrun;obtain ⟨f1, f2, f3, f4⟩ := zfN w ⟨(φ b).blk, 0, none⟩ (ns.map fun n => UInt8.ofNat n.toNat).length
         obtain ⟨fr', f5⟩ := zfM w (φ b).blk 0 (ns.map fun n => UInt8.ofNat n.toNat).length h1
         refine ⟨φ, _, .inl (zq ?_), Ext.refl _ _, H.put hb trivial (fun k hk => zeu w _ _ _ k hk) f1 f2 f3 f4 ?_, ?_, LzB _⟩
         ·rw [hy, hx, xe];have e1 : adr φ b 0 = ⟨(φ b).blk, 0, none⟩ := by rw [H.adr hb trivial, h3]
          rw [e1, hrun, zat];have e4 : (ByteArray.empty).data = #[] := rfl;rw [e4, Array.empty_append];rfl
         ·obtain ⟨arr2, g1, g2, g3, g4, g5, g6⟩ := H.obj b _ hb;cases h1.symm.trans g1;refine ⟨(fun y hy => by cases hy), arr, ty, fr', f5, fun i c hi => ?_⟩
          rw [xt] at hi;exact ⟨by rw [h3, Nat.zero_add]; exact g2 i c hi, g6 c (Lz3 hi)⟩
         ·exact trivial
       ·cases ev
      ·cases ev
    ·cases ev
  ·cases ev
 ·cases ev
theorem zlP (H : HRel w0 S φ h w) (T : TRel φ nt h.n.toNat t a.tmps) {ty el : TypeId} {len : Nat} (hu : P.underlying ty = some (.array len el)) {i : TypeInfo} (hi : P.info? el = some i) {xo : Operand} {x : Opd} (hx : cOpd xo = some x)
  {lo hi' mx : Option Operand} {lo' hi'' mx' : Option Opd} (hlo : cOpt lo = some lo') (hhi : cOpt hi' = some hi'') (hmx : cOpt mx = some mx') (hmh : mx.isSome = true → hi'.isSome = true)
  (e : wu len i.size x lo' hi'' mx' call t h = some (v, h2)) :
  Done w0 S φ h v h2 ((do pure (Next.value (← Instr.sliceAt ty (a.eval xo) (lo.map a.eval) (hi'.map a.eval) (mx.map a.eval))) : Sem Next).run P w) := by
 have hx' := zl T hx;unfold wu at e;split at e
 ·rename_i b off hxe;rw [hxe] at hx';have hob : ∀ (m l : Nat), (if m = l then adr φ b off else (adr φ b off).add (l * i.size)) = adr φ b (bif Nat.beq m l then off else off + l * i.size) := by
   intro m l;cases hb : Nat.beq m l with
   | true => rw [if_pos (beq_true hb)]; rfl
   | false => rw [if_neg (beq_false hb)]; simp [u1]
  unfold y3 at e;split at e
  ·rename_i m hm;split at e
   ·rename_i hh hhh;split at e
    ·rename_i l hl;cases hb : Nat.ble hh m with
     | false => rw [hb] at e; cases e
     | true =>
      rw [hb] at e;cases e;refine Done.same H ?_ (zq ?_)
      ·have := zQ hb;exact ⟨hx'.2, (fun hh => by cases hh), fun _ => by omega⟩
      ·have hbd := kR (P := P) (w := w) false len len _ _ _ l hh m (yD T hmx hm) (yD T hhi hhh) (yD T hlo hl) (by simpa using hmh)
       rw [hx'.1, xe, z7];simp [Instr.sliceAt, Sem.run_bind, run_underlying hu, Instr.sureAddr, hbd, sizeOf, typeInfo, hi, hob]
    ·cases e
   ·cases e
  ·cases e
 ·cases e
theorem zsG (H : HRel w0 S φ h w) {ty el : TypeId} (hu : P.underlying ty = some (.slice el)) {x : Opd} {y : Value} (hy : y = zo φ (x t)) {ats : Array TypeId} {args : Array Value} (ha : ats[0]? = some ty) (hb : args[0]? = some y) {rt : TypeId}
  (e : zjF x call t h = some (v, h2)) : Done w0 S φ h v h2 ((do pure (Next.value (← Builtin.cap_ ats rt args)) : Sem Next).run P w) := by
 unfold zjF at e;split at e
 ·rename_i hx;cases e;refine Done.same H ?_ (zq ?_)
  ·exact trivial
  rw [hx] at hy;simp [Builtin.cap_, ha, hb, run_underlying hu, hy, yY, goInt, zI]
 ·rename_i b off len cap hx;cases e;refine Done.same H ?_ (zq ?_)
  ·exact trivial
  rw [hx, z7] at hy;simp [Builtin.cap_, ha, hb, run_underlying hu, hy, goInt, zI]
 ·cases e
theorem zk1 : ∀ (x y : List UInt8), cmpS x y = Lib.compareBytes x y
 | [], [] => rfl
 | [], _ :: _ => rfl
 | _ :: _, [] => rfl
 | a :: x, b :: y => by
  unfold cmpS Lib.compareBytes;by_cases h1 : a < b
  ·have : Nat.ble (Nat.succ a.toNat) b.toNat = true := Nat.ble_eq_true_of_le (by rw [UInt8.lt_iff_toNat_lt] at h1; omega)
   rw [this, if_pos h1]; rfl
  ·have e1 : Nat.ble (Nat.succ a.toNat) b.toNat = false := by
    cases hq : Nat.ble (Nat.succ a.toNat) b.toNat with
    | false => rfl
    | true => have := zQ hq; exact absurd (UInt8.lt_iff_toNat_lt.2 (by omega)) h1
   rw [e1, if_neg h1];simp only [cond_false];by_cases h2 : b < a
   ·have : Nat.ble (Nat.succ b.toNat) a.toNat = true := Nat.ble_eq_true_of_le (by rw [UInt8.lt_iff_toNat_lt] at h2; omega)
    rw [this, if_pos h2]; rfl
   ·have e2 : Nat.ble (Nat.succ b.toNat) a.toNat = false := by
     cases hq : Nat.ble (Nat.succ b.toNat) a.toNat with
     | false => rfl
     | true => have := zQ hq; exact absurd (UInt8.lt_iff_toNat_lt.2 (by omega)) h2
    rw [e2, if_neg h2];exact zk1 x y
theorem zpM {f : Operand} {k : Nat} (he : jJ P f = k) (hk : k ≠ 0) : ∃ g, f = .func g ∧ ((k = 1 ∧ ∀ x w, (callFunc g #[x]).run P w = .ok (.value x) w) ∨
  (k = 2 ∧ ∀ (x y : ByteArray) w, (callFunc g #[.string x, .string y]).run P w = .ok (.value (.int .i64 (cmpS x.data.toList y.data.toList))) w)) := by
 unfold jJ at he;split at he
 ·rename_i g;split at he
  ·rename_i fn hfn;cases hbb : fn.body.isNone && (Extern.findNext fn).isNone with
   | false => rw [hbb] at he; exact absurd he.symm hk
   | true =>
    rw [hbb] at he;simp only [LzC] at hbb;have hb := hbb.1;have h2 : Extern.findNext fn = none := by simpa using hbb.2
    simp only [cond_true] at he;cases hn1 : fn.name == "internal/abi.NoEscape" with
    | true =>
     rw [hn1] at he;refine ⟨g, rfl, .inl ⟨he.symm, fun x w => ?_⟩⟩
     have hn : fn.name = "internal/abi.NoEscape" := by simpa using hn1
     have h1 : (fn.name == "runtime.NumGoroutine") = false := by rw [hn]; decide
     have h3 : Extern.find fn = some Extern.AbiNoEscape.same := by unfold Extern.find; rw [hn]; kernel_rfl
     rw [run_callFunc_extern hfn h1 hb h2 h3];simp [Lib.run_noEscape]
    | false =>
     rw [hn1] at he;simp only [cond_false] at he;cases hn2 : fn.name == "internal/bytealg.abigen_runtime_cmpstring" with
     | false => rw [hn2] at he; exact absurd he.symm hk
     | true =>
      rw [hn2] at he;refine ⟨g, rfl, .inr ⟨he.symm, fun x y w => ?_⟩⟩
      have hn : fn.name = "internal/bytealg.abigen_runtime_cmpstring" := by simpa using hn2
      have h1 : (fn.name == "runtime.NumGoroutine") = false := by rw [hn]; decide
      have h3 : Extern.find fn = some Extern.BytealgCompare.compare := by unfold Extern.find; rw [hn]; kernel_rfl
      rw [run_callFunc_extern hfn h1 hb h2 h3, Lib.run_compareString, zk1];rfl
  ·exact absurd he.symm hk
 ·exact absurd he.symm hk
theorem zqA (H : HRel w0 S φ h w) {ty tx rt el : TypeId} {i : TypeInfo} (ht : P.underlying ty = some (.slice el)) (hi : P.info? el = some i) {d s : Opd} {vd vs : Value} (hd : vd = zo φ (d t)) (hs : vs = zo φ (s t))
  (e : zd8 i.size d s call t h = some (v, h2)) : Done w0 S φ h v h2 ((do pure (Next.value (← Builtin.copy_ #[ty, tx] rt #[vd, vs])) : Sem Next).run P w) := by
 unfold zd8 at e;split at e
 ·rename_i hde hse;cases e;refine Done.same H ?_ (zq ?_)
  ·exact trivial
  rw [hd, hs, hde, hse, yY];have := run_firstCells_none (P := P) w i.size 0 0 0;simp [Builtin.copy_, run_underlying ht, Builtin.lenOf, sizeOf, typeInfo, hi, this, goInt, zI]
 ·rename_i b off len cap ex hde hse;cases e;refine Done.same H ?_ (zq ?_)
  ·exact trivial
  rw [hd, hs, hde, hse, yY, z7];have := run_firstCells_some (P := P) w i.size 0 (adr φ b off) len (bif ex then cap else (φ b).cap - cap) [] (by simp) (by simp)
  simp [Builtin.copy_, run_underlying ht, Builtin.lenOf, sizeOf, typeInfo, hi, this, goInt, zI]
 ·rename_i b off len cap ex hde hse;cases e;refine Done.same H ?_ (zq ?_)
  ·exact trivial
  rw [hd, hs, hde, hse, yY, z7];have := run_firstCells_none (P := P) w i.size 0 0 0;simp [Builtin.copy_, run_underlying ht, Builtin.lenOf, sizeOf, typeInfo, hi, this, goInt, zI, storeCells]
 ·rename_i b off len cap ex b' off' len' cap' ex' hde hse;have hmc : Nat.min len' len = Nat.min len len' := Nat.min_comm len' len;have key : ∀ src, zhv i.size h b off (Nat.min len len') src (h.t.get b) = some (v, h2) → (∀ l, src = some l → (∀ j u, (l.map (zi φ))[j]? = some u → w.cell? ((adr φ b' off').add j) = some u) ∧ (∀ c ∈ l, wfC φ h.n.toNat c) ∧ l.length = Nat.mul (Nat.min len len') i.size) →
    Done w0 S φ h v h2 ((do pure (Next.value (← Builtin.copy_ #[ty, tx] rt #[vd, vs])) : Sem Next).run P w) := by
   intro src hc hsrc;unfold zhv at hc;split at hc
   ·rename_i cs st' hb;split at hc
    ·rename_i l;obtain ⟨k1, k2, k3⟩ := hsrc l rfl;cases hp : putAt l cs off with
     | none => rw [hp] at hc; cases hc
     | some cs' =>
      rw [hp] at hc;cases hc;obtain ⟨w', hrun, H'⟩ := jZ (P := P) H hb k2 hp;refine ⟨φ, w', .inl (zq ?_), Ext.refl _ _, H', trivial, LzB _⟩;rw [hd, hs, hde, hse, z7, z7];have hf := run_firstCells_some (P := P) w i.size (Nat.min len' len) (adr φ b' off') len' (bif ex' then cap' else (φ b').cap - cap') (l.map (zi φ)) (by rw [List.length_map, k3, hmc]; rfl) k1
      simp [Builtin.copy_, run_underlying ht, Builtin.lenOf, sizeOf, typeInfo, hi, hf, goInt, zI, hrun];rw [hmc]
    ·cases hc
   ·cases hc
  split at e
  ·rename_i cs st hb';exact key _ e fun l hl => uT H hb' hl
  ·rename_i x f hb';exact key _ e fun l hl => jf H hb' hl
  ·cases e
 ·cases e
theorem zfL (_H : HRel w0 S φ h w) {ty tx rt el : TypeId} {i : TypeInfo} {z : SVal} (ht : P.underlying ty = some (.slice el)) (hi : P.info? el = some i) (hz : zZ P el = some z) (hzl : z.cells.length = i.size) (hi1 : i.size = 1)
  {base : Option Addr} {sLen sCap : Nat} {old new : List CVal} (hol : old.length = sLen * i.size) (hold : (Builtin.firstCells i.size sLen (.slice base sLen sCap)).run P w.drew = .ok (old.map (zi φ)).toArray w.drew)
  (hwo : ∀ c ∈ old, wfC φ h.n.toNat c) {x : Value} {n : Nat} (hs : Src P i.size tx x n (new.map (zi φ)) w) (hwn : ∀ c ∈ new, wfC φ h.n.toNat c) (hg : sCap < sLen + n) (hf : fits i.bytes (sLen + n) = true)
  {h' : AHeap} (H' : HRel w0 S φ h' w.drew) (hn' : h'.n = h.n) (e : newB h' (.tcells (old ++ new) el false) (fun b => .slc b 0 (sLen + n) 0 false) = some (v, h2)) :
  Done w0 S φ h v h2 ((do pure (Next.value (← Builtin.append_ #[ty, tx] rt #[.slice base sLen sCap, x])) : Sem Next).run P w) := by
 obtain ⟨it, zv, hit, hzv, hcz, _⟩ := yH (φ := φ) hz;obtain rfl : it = i := Option.some.inj (hit.symm.trans hi);obtain ⟨hf1, hf2⟩ := zhh hf;have hcap := nextslicecap_le hg;have hrun := run_append_grow_src (P := P) w ty tx rt el it zv ht hi hzv base sLen sCap (old.map (zi φ)) hold x n (new.map (zi φ)) hs hg (by omega) (by
  have : Builtin.nextslicecap (sLen + n) sCap * it.bytes ≤ 2 * (sLen + n) * it.bytes := Nat.mul_le_mul_right _ hcap;have e2 : 2 * (sLen + n) * it.bytes = (sLen + n) * it.bytes * 2 := by rw [Nat.mul_assoc, Nat.mul_comm]
  omega)
 obtain ⟨rfl, rfl⟩ := xY e;have hnl : new.length = n * it.size := by have := hs.newsLen; simpa using this
 have hge := grownCap_ge w (sLen + n) sCap el;generalize grownCap w (sLen + n) sCap el = C at hrun hge;refine ⟨upd φ h'.n ⟨w.heap.size, 0, C, true, none⟩, _, .inl (zq ?_), by rw [hn']; exact z4 _ _ _, zbY H' (old ++ new) (fun c hc => ?_) el false ((old.map (zi φ) ++ new.map (zi φ)).toArray ++ Builtin.zeroCells zv.cells (C - (sLen + n))) C (fun j c hj => ?_) ?_ (fun hh => by cases hh), ?_, by rw [yi, hn']; omega⟩
 ·rw [hrun];simp [zo, zF, zi, adr, Addr.add, zm]
 ·rw [hn'];rcases List.mem_append.1 hc with hc | hc
  ·exact hwo c hc
  ·exact hwn c hc
 ·rw [Array.getElem?_append_left (by
   have := (Lz0.1 hj).1
   simpa using this)]
  rw [← List.map_append, List.getElem?_toArray, Lz6, hj];rfl
 ·have hzc : zv.cells.size = it.size := by rw [← hcz, yx]; simpa using hzl
  simp only [Array.size_append, List.size_toArray, List.length_append, List.length_map, size_zeroCells, hzc, hol, hnl, hi1];omega
 ·refine ⟨⟨by rw [yi]; omega, by rw [zm]⟩, fun _ => ?_, fun hh => by cases hh⟩
  rw [zm];show 0 + (sLen + n) ≤ C;omega
theorem zm4 (H : HRel w0 S φ h w) {ty tx rt el : TypeId} {i : TypeInfo} {z : SVal} (ht : P.underlying ty = some (.slice el)) (hi : P.info? el = some i) (hz : zZ P el = some z) (hzl : z.cells.length = i.size) (hi1 : i.size = 1)
  {vs vx : Value} {b : BN} {off len cap : Nat} {ex : Bool} {new cs : List CVal} {n el' : Nat} {var : Bool} (hs : vs = zo φ (.s (.one (.slc b off len cap ex))) ∧ wfA φ h.n.toNat (.s (.one (.slc b off len cap ex))))
  (hsr : Src P i.size tx vx n (new.map (zi φ)) w) (hwn : ∀ c ∈ new, wfC φ h.n.toNat c) (_ : n ≠ 0) (hf : fits i.bytes (Nat.add len n) = true) (hb : h.t.get b = some (.tcells cs el' var))
  (e : zbq el h new n b off len cap ex (some (.tcells cs el' var)) = some (v, h2)) : Done w0 S φ h v h2 ((do pure (Next.value (← Builtin.append_ #[ty, tx] rt #[vs, vx])) : Sem Next).run P w) := by
 unfold zbq at e;simp only at e;cases hq : !var && !ex && Nat.beq off 0 && Nat.beq cap 0 && Nat.beq el el' && uJ cs len with
 | false => rw [hq] at e; cases e
 | true =>
  rw [hq] at e;simp only [cond_true] at e;simp only [LzC] at hq;obtain ⟨⟨⟨⟨⟨hvar, hex⟩, ho⟩, hc⟩, hel⟩, hlen⟩ := hq;have hex : ex = false := by simpa using hex
  subst hex;obtain rfl := beq_true ho;obtain rfl := beq_true hc;obtain rfl := beq_true hel;have hlen := u7 _ _ hlen;rw [hs.1, z7];obtain ⟨hwb, hwu, _⟩ := hs.2;have hroom0 := hwu rfl;obtain ⟨arr, h1, h2', h3, h4, _, h6⟩ := H.obj b _ hb;have hcut : cut cs.length cs 0 = some cs := by
   have tk : ∀ l : List CVal, takeN l.length l = some l := by
    intro l
    induction l with
    | nil => rfl
    | cons c l ih => simp only [List.length_cons, takeN, ih, xI]
   cases cs with
   | nil => rfl
   | cons c l => simp only [cut]; exact tk (c :: l)
  obtain ⟨ho1, ho2, ho3⟩ := vN H hb hcut;have hnl : new.length = n := by have := hsr.newsLen; simpa [hi1] using this
  have hold' : (Builtin.firstCells i.size len (.slice (some (adr φ b 0)) len ((φ b).cap - 0))).run P w.drew = .ok (cs.map (zi φ)).toArray w.drew :=
   run_firstCells_some (P := P) w.drew i.size len (adr φ b 0) len _ (cs.map (zi φ)) (by rw [List.length_map, hlen, hi1]; omega) (by simpa using ho1)
  by_cases hroom : len + n ≤ (φ b).cap - 0
  ·
   obtain ⟨rfl, rfl⟩ := xY e;have hfit : (φ b).base + 0 + len * i.size + new.length ≤ arr.size := by rw [hnl, h3, hi1]; omega
   have hrun := run_storeCells_at P (φ b).blk ((φ b).base + 0 + len * i.size) el (new.map (zi φ)) 0 arr w h1 (by simpa using hfit) (kU φ new)
   simp only [Nat.add_zero, List.length_map] at hrun;generalize hA : (arr.toList.take ((φ b).base + len * i.size) ++ new.map (zi φ) ++ arr.toList.drop ((φ b).base + len * i.size + new.length)).toArray = arr' at hrun;have hsz : arr'.size = arr.size := by rw [← hA]; simp; omega
   refine ⟨upd φ h.n ⟨(φ b).blk, 0, (φ b).cap, true, none⟩, w.setRow (φ b).blk arr', .inl (zq ?_), z4 _ _ _,
    H.move hb trivial (fun k hk => setRow_other w _ k _ hk) (by simp) rfl rfl rfl ⟨(φ b).blk, 0, (φ b).cap, true, none⟩ rfl ⟨arr', ?_, fun j c hj => ?_, by rw [zm], ?_, (fun hh => by cases hh), fun c hc' => ?_⟩, ?_, ?_⟩
   ·rw [z7];have e1 : (⟨(φ b).blk, (φ b).base + len * i.size, none⟩ : Addr) = (adr φ b 0).add (len * i.size) := by rw [H.adr hb trivial]; exact (Addr.add_mid _ _ _).symm
    rw [e1] at hrun;have := xL (rt := rt) ht hi hsr hroom hrun;rw [cond_false, this];rw [H.adr hb trivial];simp [adr, Addr.add, zm, zlY, h3]
   ·rw [zm]; exact setRow_heap w (φ b).blk arr _ el _ h1
   ·have hwc : wfC φ h.n.toNat c := by
     rcases List.mem_append.1 (Lz3 hj) with hc' | hc'
     ·exact ho2 c hc'
     ·exact hwn c hc'
    rw [vO (z4 φ h.n _) hwc, ← hA, List.getElem?_toArray, h3, hi1, Nat.zero_add, Nat.mul_one];by_cases hjl : j < cs.length
    ·rw [Lz2 hjl] at hj;have hcell := h2' j c hj;have hlt := (Lz7.1 hcell).1;rw [List.append_assoc, Lz2 (by simp; omega), List.getElem?_take, if_pos (by omega)]
     simpa using hcell
    ·rw [Lz8 (by omega)] at hj
     have e0 : (arr.toList.take len).length = len := by simp; rw [h3, hi1] at hfit; omega
     have hjn := (Lz0.1 hj).1;rw [List.append_assoc, Lz8 (by rw [e0]; omega), e0, Lz2 (by simp; omega), Lz6]
     have e1 : j - len = j - cs.length := by omega
     rw [e1, hj];rfl
   ·rw [zm, hsz]; exact h4
   ·refine zaj (z4 φ h.n _) (Nat.le_succ _) ?_;rcases List.mem_append.1 hc' with hc' | hc'
    ·exact ho2 c hc'
    ·exact hwn c hc'
   ·refine ⟨⟨?_, ?_⟩, fun _ => ?_, fun hh => by cases hh⟩
    ·rw [yi]; show h.n.toNat < h.n.toNat + 1; omega
    ·show (upd φ h.n _ h.n).ok = true; rw [zm]
    ·show 0 + (len + n) ≤ (upd φ h.n _ h.n).cap;rw [zm]; show 0 + (len + n) ≤ (φ b).cap; omega
   ·rw [yi]; show h.n.toNat ≤ h.n.toNat + 1; omega
  ·have Hd : HRel w0 S φ (h.put b .dead) w.drew := H.drew.put hb trivial (fun k _ => rfl) rfl rfl rfl rfl trivial
   exact zfL H ht hi hz hzl hi1 (by rw [hlen, hi1]; omega) hold' ho2 hsr hwn (by omega) hf Hd rfl e
theorem zje (H : HRel w0 S φ h w) {ty tx rt el : TypeId} {i : TypeInfo} {z : SVal} (ht : P.underlying ty = some (.slice el)) (hi : P.info? el = some i) (hz : zZ P el = some z) (hzl : z.cells.length = i.size) (hi1 : i.size = 1)
  (hk : P.underlying tx = some .string) {s x : Opd} {vs vx : Value} (hs : vs = zo φ (s t) ∧ wfA φ h.n.toNat (s t)) (hx : vx = zo φ (x t)) (e : uG el i.bytes s x call t h = some (v, h2)) :
  Done w0 S φ h v h2 ((do pure (Next.value (← Builtin.append_ #[ty, tx] rt #[vs, vx])) : Sem Next).run P w) := by
 unfold uG at e;split at e
 ·rename_i u hxe;have hsrcE : zdM true i.size h (x t) = some (bytesOf u, u.size) := by rw [hxe, hi1]; rfl
  obtain ⟨hsr, hwn⟩ := zan (P := P) (w := w) H (.inr ⟨rfl, hk⟩) hsrcE;rw [← hx] at hsr;split at e
  ·rename_i hse;cases hn : Nat.beq u.size 0 with
   | true =>
    rw [hn] at e;cases e;refine jU (call := call) (str := true) (s := s) (x := x) (t := t) H ht hi hz hzl (.inr ⟨rfl, hk⟩) hs hx ?_;unfold xj;simp only [hsrcE, hse, hn, cond_true]
   | false =>
    rw [hn] at e;simp only [cond_false] at e;have hn0 := beq_false hn;cases hf : fits i.bytes u.size with
    | false => rw [hf] at e; cases e
    | true =>
     rw [hf] at e;simp only [cond_true] at e;rw [hse] at hs;rw [hs.1, yY];refine zfL H (sLen := 0) (sCap := 0) (old := []) ht hi hz hzl hi1 (by simp) (by simpa using run_firstCells_none (P := P) w.drew i.size 0 0 0) (fun c hc => by cases hc) hsr hwn (by omega) (by simpa using hf) H.drew rfl ?_
     rw [Nat.zero_add];exact e
  ·rename_i b off len cap ex hse;cases hn : Nat.beq u.size 0 with
   | true =>
    rw [hn] at e;cases e;refine jU (call := call) (str := true) (s := s) (x := x) (t := t) H ht hi hz hzl (.inr ⟨rfl, hk⟩) hs hx ?_;unfold xj;simp only [hsrcE, hse, hn, cond_true]
   | false =>
    rw [hn] at e;simp only [cond_false] at e;have hn0 := beq_false hn;cases hf : fits i.bytes (Nat.add len u.size) with
    | false => rw [hf] at e; cases e
    | true =>
     rw [hf] at e;simp only [cond_true] at e;have old : ∀ o, h.t.get b = o → w6 1 h (bytesOf u) u.size b off len cap ex o = some (v, h2) → Done w0 S φ h v h2 ((do pure (Next.value (← Builtin.append_ #[ty, tx] rt #[vs, vx])) : Sem Next).run P w) := by
      intro o ho e;refine jU (call := call) (str := true) (s := s) (x := x) (t := t) H ht hi hz hzl (.inr ⟨rfl, hk⟩) hs hx ?_;unfold xj;rw [hsrcE];simp only [hse, hn, hf, cond_true, cond_false, ho, hi1];exact e
     unfold zbq at e;split at e
     ·rename_i cs el' var hb;cases hq : !var && !ex && Nat.beq off 0 && Nat.beq cap 0 && Nat.beq el el' && uJ cs len with
      | false => rw [hq] at e; cases e
      | true =>
       rw [hq] at e;simp only [cond_true] at e;simp only [LzC] at hq;obtain ⟨⟨⟨⟨⟨hvar, hex⟩, ho⟩, hc⟩, hel⟩, hlen⟩ := hq;have hex : ex = false := by simpa using hex
       subst hex;obtain rfl := beq_true ho;obtain rfl := beq_true hc;obtain rfl := beq_true hel;have hlen := u7 _ _ hlen;rw [hse] at hs;rw [hs.1, z7];obtain ⟨hwb, hwu, _⟩ := hs.2;have hroom0 := hwu rfl;obtain ⟨arr, h1, h2', h3, h4, _, h6⟩ := H.obj b _ hb;have hcut : cut cs.length cs 0 = some cs := by
        have tk : ∀ l : List CVal, takeN l.length l = some l := by
         intro l
         induction l with
         | nil => rfl
         | cons c l ih => simp only [List.length_cons, takeN, ih, xI]
        cases cs with
        | nil => rfl
        | cons c l => simp only [cut]; exact tk (c :: l)
       obtain ⟨ho1, ho2, ho3⟩ := vN H hb hcut;have hnl : (bytesOf u).length = u.size := by have := hsr.newsLen; simpa [hi1] using this
       have hold' : (Builtin.firstCells i.size len (.slice (some (adr φ b 0)) len ((φ b).cap - 0))).run P w.drew = .ok (cs.map (zi φ)).toArray w.drew :=
        run_firstCells_some (P := P) w.drew i.size len (adr φ b 0) len _ (cs.map (zi φ)) (by rw [List.length_map, hlen, hi1]; omega) (by simpa using ho1)
       by_cases hroom : len + u.size ≤ (φ b).cap - 0
       ·
        obtain ⟨rfl, rfl⟩ := xY e;have hfit : (φ b).base + 0 + len * i.size + (bytesOf u).length ≤ arr.size := by rw [hnl, h3, hi1]; omega
        have hrun := run_storeCells_at P (φ b).blk ((φ b).base + 0 + len * i.size) el ((bytesOf u).map (zi φ)) 0 arr w h1 (by simpa using hfit) (kU φ (bytesOf u))
        simp only [Nat.add_zero, List.length_map] at hrun;generalize hA : (arr.toList.take ((φ b).base + len * i.size) ++ (bytesOf u).map (zi φ) ++ arr.toList.drop ((φ b).base + len * i.size + (bytesOf u).length)).toArray = arr' at hrun;have hsz : arr'.size = arr.size := by rw [← hA]; simp; omega
        refine ⟨upd φ h.n ⟨(φ b).blk, 0, (φ b).cap, true, none⟩, w.setRow (φ b).blk arr', .inl (zq ?_), z4 _ _ _,
         H.move hb trivial (fun k hk => setRow_other w _ k _ hk) (by simp) rfl rfl rfl ⟨(φ b).blk, 0, (φ b).cap, true, none⟩ rfl ⟨arr', ?_, fun j c hj => ?_, by rw [zm], ?_, (fun hh => by cases hh), fun c hc' => ?_⟩, ?_, ?_⟩
        ·rw [z7];have e1 : (⟨(φ b).blk, (φ b).base + len * i.size, none⟩ : Addr) = (adr φ b 0).add (len * i.size) := by rw [H.adr hb trivial]; exact (Addr.add_mid _ _ _).symm
         rw [e1] at hrun;have := xL (rt := rt) ht hi hsr hroom hrun;rw [cond_false, this];rw [H.adr hb trivial];simp [adr, Addr.add, zm, zlY, h3]
        ·rw [zm]; exact setRow_heap w (φ b).blk arr _ el _ h1
        ·have hwc : wfC φ h.n.toNat c := by
          rcases List.mem_append.1 (Lz3 hj) with hc' | hc'
          ·exact ho2 c hc'
          ·exact hwn c hc'
         rw [vO (z4 φ h.n _) hwc, ← hA, List.getElem?_toArray, h3, hi1, Nat.zero_add, Nat.mul_one];by_cases hjl : j < cs.length
         ·rw [Lz2 hjl] at hj;have hcell := h2' j c hj;have hlt := (Lz7.1 hcell).1;rw [List.append_assoc, Lz2 (by simp; omega), List.getElem?_take, if_pos (by omega)]
          simpa using hcell
         ·rw [Lz8 (by omega)] at hj
          have e0 : (arr.toList.take len).length = len := by simp; rw [h3, hi1] at hfit; omega
          have hjn := (Lz0.1 hj).1;rw [List.append_assoc, Lz8 (by rw [e0]; omega), e0, Lz2 (by simp; omega), Lz6]
          have e1 : j - len = j - cs.length := by omega
          rw [e1, hj];rfl
        ·rw [zm, hsz]; exact h4
        ·refine zaj (z4 φ h.n _) (Nat.le_succ _) ?_;rcases List.mem_append.1 hc' with hc' | hc'
         ·exact ho2 c hc'
         ·exact hwn c hc'
        ·refine ⟨⟨?_, ?_⟩, fun _ => ?_, fun hh => by cases hh⟩
         ·rw [yi]; show h.n.toNat < h.n.toNat + 1; omega
         ·show (upd φ h.n _ h.n).ok = true; rw [zm]
         ·show 0 + (len + u.size) ≤ (upd φ h.n _ h.n).cap;rw [zm]; show 0 + (len + u.size) ≤ (φ b).cap; omega
        ·rw [yi]; show h.n.toNat ≤ h.n.toNat + 1; omega
       ·have Hd : HRel w0 S φ (h.put b .dead) w.drew := H.drew.put hb trivial (fun k _ => rfl) rfl rfl rfl rfl trivial
        exact zfL H ht hi hz hzl hi1 (by rw [hlen, hi1]; omega) hold' ho2 hsr hwn (by omega) hf Hd rfl e
     ·rename_i o ho;exact old _ rfl e
  ·cases e
 ·cases e
theorem zjf (H : HRel w0 S φ h w) {ty tx rt el el2 : TypeId} {i : TypeInfo} {z : SVal} (ht : P.underlying ty = some (.slice el)) (hi : P.info? el = some i) (hz : zZ P el = some z) (hzl : z.cells.length = i.size) (hi1 : i.size = 1)
  (hk : P.underlying tx = some (.slice el2)) {s x : Opd} {vs vx : Value} (hs : vs = zo φ (s t) ∧ wfA φ h.n.toNat (s t)) (hx : vx = zo φ (x t)) (e : uH el i.bytes s x call t h = some (v, h2)) :
  Done w0 S φ h v h2 ((do pure (Next.value (← Builtin.append_ #[ty, tx] rt #[vs, vx])) : Sem Next).run P w) := by
 have old : xj false 1 i.bytes s x call t h = some (v, h2) → Done w0 S φ h v h2 ((do pure (Next.value (← Builtin.append_ #[ty, tx] rt #[vs, vx])) : Sem Next).run P w) := fun e =>
  jU (call := call) (str := false) (s := s) (x := x) (t := t) H ht hi hz hzl (.inl ⟨rfl, _, hk⟩) hs hx (by rw [hi1]; exact e)
 have e0 := e;unfold uH at e;split at e
 ·rename_i b off len cap ex hse;split at e
  ·rename_i cs el' var hb;split at e
   ·rename_i new n hsrc;cases hn : Nat.beq n 0 with
    | true =>
     refine old ?_;rw [hn, cond_true] at e;unfold xj;rw [hsrc];simp only [hse, hn, cond_true];exact e
    | false =>
     rw [hn] at e;simp only [cond_false] at e;cases hf : fits i.bytes (Nat.add len n) with
     | false => rw [hf] at e; cases e
     | true =>
      rw [hf] at e;simp only [cond_true] at e;obtain ⟨hsr, hwn⟩ := zan (P := P) (w := w) H (.inl ⟨rfl, _, hk⟩) hsrc;rw [← hx] at hsr;rw [hse] at hs;rw [← hi1] at hsr;exact zm4 H ht hi hz hzl hi1 hs hsr hwn (beq_false hn) hf hb e
   ·cases e
  ·exact old e
 ·exact old e
end
end Go.CE
end
section
namespace Go.CE
open Go.RowKit
section
variable {P : Program} {w0 : World} {S : Nat → Prop} {φ : Phi} {h h2 : AHeap} {w w2 : World} {nt : Nat} {t : Tr AVal} {a : Act} {v : AVal} {call : zh}
theorem zc {x : Res} (hx : x = none) (e : x = some (v, h2)) : False := by rw [hx] at e; cases e
theorem zgy (H : HRel w0 S φ h w) (T : TRel φ nt h.n.toNat t a.tmps) {isMax : Bool} {x : Operand} {xs : List Operand} {f : Opd} {fs : List Opd} (hx : cOpd x = some f) (hxs : vr xs = some fs) {s : Array Value → Sem Value}
  (hs : ∀ args : Array Value, args.toList = (x :: xs).map a.eval → s args = (xs.map a.eval).foldlM (if isMax then Builtin.max2 else Builtin.min2) (a.eval x)) {args : Array Value} (ha : args.toList = (x :: xs).map a.eval)
  (e : yT isMax f fs call t h = some (v, h2)) : Done w0 S φ h v h2 ((do pure (Next.value (← s args)) : Sem Next).run P w) := by
 unfold yT at e;split at e
 ·rename_i k n hn;split at e
  ·rename_i m hm;cases e;refine Done.same H ?_ (zq ?_)
   ·exact trivial
   ·rw [hs args ha, (zl T hx).1, hn, zI, zI];exact zb4 isMax k T hxs n m hm
  ·cases e
 ·cases e
def zjw : Op → Bool
 | .call c => match c.callee with | .builtin _ => true | _ => false
 | _ => true
set_option maxHeartbeats 2000000 in
theorem zl7 (H : HRel w0 S φ h w) (T : TRel φ nt h.n.toNat t a.tmps) {o : Oper} (hp : zjw o.op = true) (e : cOp P o.op call t h = some (v, h2)) : Done w0 S φ h v h2 ((execOp a.eval o).run P w) := by
 cases ho : o.op <;> rw [ho] at e hp <;> try (exact (zc rfl e).elim)
 case move x =>
  cases hx : cOpd x with
  | none => simp only [cOp, hx] at e; exact (zc rfl e).elim
  | some f => simp only [cOp, hx] at e; unfold execOp; simp only [ho]; exact s_mv (call := call) H (zl T hx) e
 case assign x =>
  cases hx : cOpd x with
  | none => simp only [cOp, hx] at e; exact (zc rfl e).elim
  | some f => simp only [cOp, hx] at e; unfold execOp; simp only [ho]; exact s_mv (call := call) H (zl T hx) e
 case pick c x y =>
  cases hc : cOpd c with
  | none => simp only [cOp, hc] at e; exact (zc rfl e).elim
  | some fc =>
   cases hx : cOpd x with
   | none => simp only [cOp, hc, hx] at e; exact (zc rfl e).elim
   | some fx =>
    cases hy : cOpd y with
    | none => simp only [cOp, hc, hx, hy] at e; exact (zc rfl e).elim
    | some fy => simp only [cOp, hc, hx, hy] at e; unfold execOp; simp only [ho]; exact zqs (call := call) H (zl T hc).1 (zl T hx) (zl T hy) e
 case alloc ty =>
  cases hz : zZ P ty with
  | none => simp only [cOp, hz] at e; cases hb : kj P ty <;> rw [hb] at e <;> exact (zc rfl e).elim
  | some z =>
   simp only [cOp, hz] at e;unfold execOp;simp only [ho];cases hb : kj P ty with
   | false => rw [hb] at e; exact zoC (call := call) (t := t) H hz e
   | true => rw [hb] at e; exact zlV (call := call) (t := t) H hz e
 case box ty x =>
  cases hx : cOpd x with
  | none => simp only [cOp, hx] at e; exact (zc rfl e).elim
  | some f => simp only [cOp, hx] at e; unfold execOp; simp only [ho]; exact zsH (call := call) (t := t) H (zl T hx) e
 case build ty parts =>
  cases hu : P.underlying ty with
  | none => simp only [cOp, hu] at e; exact (zc rfl e).elim
  | some d =>
   cases d <;> try (cases hz : zZ P ty <;> simp only [cOp, hu, hz] at e <;> exact (zc rfl e).elim)
   case array len el =>
    cases hz : zZ P ty with
    | none => simp only [cOp, hu, hz] at e; exact (zc rfl e).elim
    | some z =>
     cases hi : P.info? el with
     | none => simp only [cOp, hu, hz, hi] at e; exact (zc rfl e).elim
     | some i =>
      cases hr : y1 i.size parts.toList with
      | none => simp only [cOp, hu, hz, hi, hr] at e; exact (zc rfl e).elim
      | some r => simp only [cOp, hu, hz, hi, hr] at e; unfold execOp; simp only [ho]; exact zlU (call := call) (t := t) H T hu hz hi hr e
   case struct fs =>
    cases hz : zZ P ty with
    | none => simp only [cOp, hu, hz] at e; exact (zc rfl e).elim
    | some z =>
     cases hall : jQ P fs.toList with
     | false => simp only [cOp, hu, hz, hall] at e; exact (zc rfl e).elim
     | true =>
      cases hr : xk P fs parts.toList with
      | none => simp only [cOp, hu, hz, hall, hr] at e; exact (zc rfl e).elim
      | some r => simp only [cOp, hu, hz, hall, hr] at e; unfold execOp; simp only [ho]; exact zlT (call := call) (t := t) H T hu hz hall hr e
 case buildSlice ty len parts =>
  cases hu : P.underlying ty with
  | none => simp only [cOp, hu] at e; exact (zc rfl e).elim
  | some d =>
   cases d <;> try (simp only [cOp, hu] at e; exact (zc rfl e).elim)
   case slice el =>
    cases hi : P.info? el with
    | none => simp only [cOp, hu, hi] at e; exact (zc rfl e).elim
    | some i =>
     simp only [cOp, hu, hi] at e;cases hle : Nat.ble (len * i.size) 16777216 with
     | false => rw [hle] at e; exact (zc rfl e).elim
     | true =>
      rw [hle] at e;simp only [cond_true] at e;cases hr : y1 i.size parts.toList with
      | none =>
       rw [hr] at e;exfalso
       revert e
       cases hb : Nat.beq (len * i.size) 0 with
       | true => simp only [cond_true, Bool.true_or]; intro e; exact zc rfl e
       | false =>
        cases hz : zZ P el with
        | none => simp only [cond_false, Option.map_none]; intro e; exact zc rfl e
        | some z =>
         simp only [cond_false, Option.map_some, Bool.false_or];cases hzl : Nat.beq z.cells.length i.size <;> (intro e; exact zc rfl e)
      | some r =>
       rw [hr] at e;unfold execOp; simp only [ho];cases hb : Nat.beq (len * i.size) 0 with
       | true =>
        rw [hb] at e;simp only [cond_true, Bool.true_or] at e;exact zgz (call := call) (t := t) H T hu hi (zQ hle) (.inl ⟨beq_true hb, rfl⟩) hr e
       | false =>
        rw [hb] at e;cases hz : zZ P el with
        | none => simp only [hz, cond_false, Option.map_none] at e; exact (zc rfl e).elim
        | some z =>
         simp only [hz, cond_false, Option.map_some, Bool.false_or] at e;cases hzl : Nat.beq z.cells.length i.size with
         | false => rw [hzl] at e; exact (zc rfl e).elim
         | true =>
          rw [hzl] at e;exact zgz (call := call) (t := t) H T hu hi (zQ hle) (.inr ⟨beq_false hb, z, hz, rfl, beq_true hzl⟩) hr e
 case load ty x =>
  cases hs : xx P ty with
  | none => simp only [cOp, hs] at e; exact (zc rfl e).elim
  | some n =>
   cases hx : cOpd x with
   | none => simp only [cOp, hs, hx] at e; exact (zc rfl e).elim
   | some f => simp only [cOp, hs, hx] at e; unfold execOp; simp only [ho]; exact zqv (call := call) (t := t) H hs (zl T hx).1 e
 case store ty x y =>
  cases hi : P.info? ty with
  | none => simp only [cOp, hi] at e; exact (zc rfl e).elim
  | some i =>
   cases hx : cOpd x with
   | none => simp only [cOp, hi, hx] at e; exact (zc rfl e).elim
   | some f =>
    cases hy : cOpd y with
    | none => simp only [cOp, hi, hx, hy] at e; exact (zc rfl e).elim
    | some g => simp only [cOp, hi, hx, hy] at e; unfold execOp; simp only [ho]; exact zot (call := call) (t := t) H hi (zl T hx).1 (zl T hy) e
 case nilCheck x =>
  cases hx : cOpd x with
  | none => simp only [cOp, hx] at e; exact (zc rfl e).elim
  | some f => simp only [cOp, hx] at e; exact zov (call := call) (t := t) H ho (zl T hx) e
 case unOp op ty x =>
  cases op <;> try (exact (zc rfl e).elim)
  case not =>
   cases hx : cOpd x with
   | none => simp only [cOp, hx] at e; exact (zc rfl e).elim
   | some f => simp only [cOp, hx] at e; unfold execOp; simp only [ho]; exact zsC (call := call) (t := t) H (zl T hx).1 e
  case neg =>
   cases hx : cOpd x with
   | none => simp only [cOp, hx] at e; exact (zc rfl e).elim
   | some f => simp only [cOp, hx] at e; unfold execOp; simp only [ho]; exact zsD (call := call) (t := t) H (zl T hx).1 e
 case convert s d x =>
  cases hus : P.underlying s with
  | none => simp only [cOp, hus] at e; exact (zc rfl e).elim
  | some ds =>
   cases hud : P.underlying d with
   | none => simp only [cOp, hus, hud] at e; cases ds <;> exact (zc rfl e).elim
   | some dd =>
    cases ds <;> try (simp only [cOp, hus, hud] at e; exact (zc rfl e).elim)
    case string =>
     cases dd <;> try (simp only [cOp, hus, hud] at e; exact (zc rfl e).elim)
     case slice el =>
      cases hb : yy P el with
      | false => simp only [cOp, hus, hud, hb] at e; exact (zc rfl e).elim
      | true =>
       cases hx : cOpd x with
       | none => simp only [cOp, hus, hud, hb, hx] at e; exact (zc rfl e).elim
       | some f => simp only [cOp, hus, hud, hb, hx] at e; unfold execOp; simp only [ho]; exact zsJ (call := call) (t := t) (x := f) H hus hud (zaX hb) (zl T hx).1 e
    case slice el =>
     cases dd <;> try (simp only [cOp, hus, hud] at e; exact (zc rfl e).elim)
     case string =>
      cases hb : yy P el with
      | false => simp only [cOp, hus, hud, hb] at e; exact (zc rfl e).elim
      | true =>
       cases hx : cOpd x with
       | none => simp only [cOp, hus, hud, hb, hx] at e; exact (zc rfl e).elim
       | some f => simp only [cOp, hus, hud, hb, hx] at e; unfold execOp; simp only [ho]; exact zsL (call := call) (t := t) (x := f) H hus (zaX hb) hud (zl T hx).1 e
    case pointer te =>
     cases dd <;> try (simp only [cOp, hus, hud] at e; exact (zc rfl e).elim)
     case unsafePointer =>
      cases hb : xz P te with
      | false => simp only [cOp, hus, hud, hb] at e; exact (zc rfl e).elim
      | true =>
       cases hx : cOpd x with
       | none => simp only [cOp, hus, hud, hb, hx] at e; exact (zc rfl e).elim
       | some f => simp only [cOp, hus, hud, hb, hx] at e; unfold execOp; simp only [ho]; exact zsK (call := call) (t := t) (x := f) H hus hud hb (zl T hx) e
    case unsafePointer =>
     cases dd <;> try (simp only [cOp, hus, hud] at e; exact (zc rfl e).elim)
     case pointer u =>
      cases hb : zim P u with
      | false => simp only [cOp, hus, hud, hb] at e; exact (zc rfl e).elim
      | true =>
       cases hx : cOpd x with
       | none => simp only [cOp, hus, hud, hb, hx] at e; exact (zc rfl e).elim
       | some f => simp only [cOp, hus, hud, hb, hx] at e; unfold execOp; simp only [ho]; exact zsI (call := call) (t := t) (x := f) H hus hud hb (zl T hx) e
    case int k0 =>
     cases dd <;> try (simp only [cOp, hus, hud] at e; exact (zc rfl e).elim)
     case int k =>
      cases hx : cOpd x with
      | none => simp only [cOp, hus, hud, hx] at e; exact (zc rfl e).elim
      | some f => simp only [cOp, hus, hud, hx] at e; unfold execOp; simp only [ho]; exact zqB (call := call) (t := t) H hus hud (zl T hx).1 e
 case makeFunc fn first captured =>
  cases fn <;> try (exact (zc rfl e).elim)
  case func f =>
   cases hf : first.isEmpty with
   | false => simp only [cOp, hf] at e; exact (zc rfl e).elim
   | true =>
    cases hc : vr captured.toList with
    | none => simp only [cOp, hf, hc] at e; exact (zc rfl e).elim
    | some l =>
     simp only [cOp, hf, hc] at e;unfold execOp; simp only [ho];have h1 : first = #[] := by simpa using hf
     have h2' : captured.map a.eval = (captured.toList.map a.eval).toArray := by apply Array.ext'; simp
     have h3 : first.map a.eval = #[] := by rw [h1]; simp
     rw [h2', h3];exact zqu (call := call) (t := t) H (zaE T hc) e
 case makeMap ty r =>
  cases r with
  | none => unfold execOp; simp only [ho]; exact zow (call := call) (t := t) H e
  | some x => exact (zc rfl e).elim
 case makeSlice ty l c =>
  cases hu : P.underlying ty with
  | none => simp only [cOp, hu] at e; exact (zc rfl e).elim
  | some d =>
   cases d <;> try (simp only [cOp, hu] at e; exact (zc rfl e).elim)
   case slice el =>
    cases hi : P.info? el with
    | none => simp only [cOp, hu, hi] at e; exact (zc rfl e).elim
    | some i =>
     cases hz : zZ P el with
     | none => simp only [cOp, hu, hi, hz] at e; exact (zc rfl e).elim
     | some z =>
      simp only [cOp, hu, hi, hz] at e;cases hb : (Nat.beq z.cells.length i.size && !Nat.beq i.size 0) with
      | false => rw [hb] at e; exact (zc rfl e).elim
      | true =>
       rw [hb] at e;simp only [LzC, Bool.not_eq_true'] at hb;cases hl : cOpd l with
       | none => simp only [hl] at e; exact (zc rfl e).elim
       | some fl =>
        cases hc : cOpd c with
        | none => simp only [hl, hc] at e; exact (zc rfl e).elim
        | some fc =>
         simp only [hl, hc] at e;unfold execOp; simp only [ho];exact zjc (call := call) (t := t) H hu hi hz (beq_true hb.1) (beq_false hb.2) (zl T hl).1 (zl T hc).1 e
 case slice ty x lo hi mx =>
  cases hu : P.underlying ty with
  | none => simp only [cOp, hu] at e; exact (zc rfl e).elim
  | some d =>
   cases d <;> try (simp only [cOp, hu] at e; exact (zc rfl e).elim)
   case slice el =>
    cases hi' : P.info? el with
    | none => simp only [cOp, hu, hi'] at e; exact (zc rfl e).elim
    | some i =>
     simp only [cOp, hu, hi'] at e;cases hb : (mx.isSome && !hi.isSome) with
     | true => rw [hb] at e; exact (zc rfl e).elim
     | false =>
      rw [hb] at e;cases hx : cOpd x with
      | none => simp only [hx] at e; exact (zc rfl e).elim
      | some fx =>
       cases hlo : cOpt lo with
       | none => simp only [hx, hlo] at e; exact (zc rfl e).elim
       | some fl =>
        cases hhi : cOpt hi with
        | none => simp only [hx, hlo, hhi] at e; exact (zc rfl e).elim
        | some fh =>
         cases hmx : cOpt mx with
         | none => simp only [hx, hlo, hhi, hmx] at e; exact (zc rfl e).elim
         | some fm =>
          simp only [hx, hlo, hhi, hmx] at e;unfold execOp; simp only [ho];exact zou (call := call) (t := t) H T hu hi' hx hlo hhi hmx (fun hm => by
           cases hh : hi.isSome with
           | true => rfl
           | false => rw [hm, hh] at hb; cases hb) e
   case array len el =>
    simp only [cOp, hu] at e;cases hi' : P.info? el with
    | none => rw [hi'] at e; exact (zc rfl e).elim
    | some i =>
     rw [hi'] at e;simp only at e;cases hb : (mx.isSome && !hi.isSome) with
     | true => rw [hb] at e; exact (zc rfl e).elim
     | false =>
      rw [hb] at e;cases hx : cOpd x with
      | none => simp only [hx] at e; exact (zc rfl e).elim
      | some fx =>
       cases hlo : cOpt lo with
       | none => simp only [hx, hlo] at e; exact (zc rfl e).elim
       | some fl =>
        cases hhi : cOpt hi with
        | none => simp only [hx, hlo, hhi] at e; exact (zc rfl e).elim
        | some fh =>
         cases hmx : cOpt mx with
         | none => simp only [hx, hlo, hhi, hmx] at e; exact (zc rfl e).elim
         | some fm =>
          simp only [hx, hlo, hhi, hmx] at e;unfold execOp; simp only [ho];exact zlP (call := call) (t := t) H T hu hi' hx hlo hhi hmx (fun hm => by
           cases hh : hi.isSome with
           | true => rfl
           | false => rw [hm, hh] at hb; cases hb) e
   case string =>
    simp only [cOp, hu] at e;cases mx with
    | some m => exact (zc rfl e).elim
    | none =>
     simp only [Option.isSome_none, cond_false] at e;cases hx : cOpd x with
     | none => simp only [hx] at e; exact (zc rfl e).elim
     | some fx =>
      cases hlo : cOpt lo with
      | none => simp only [hx, hlo] at e; exact (zc rfl e).elim
      | some fl =>
       cases hhi : cOpt hi with
       | none => simp only [hx, hlo, hhi] at e; exact (zc rfl e).elim
       | some fh =>
        simp only [hx, hlo, hhi] at e;unfold execOp; simp only [ho];exact zlO (call := call) (t := t) H T hu hx hlo hhi e
 case fieldAddr ty x f =>
  cases hu : P.underlying ty with
  | none => simp only [cOp, hu] at e; exact (zc rfl e).elim
  | some d =>
   cases d <;> try (simp only [cOp, hu] at e; exact (zc rfl e).elim)
   case struct fs =>
    cases hf : fs[f]? with
    | none => simp only [cOp, hu, hf] at e; exact (zc rfl e).elim
    | some fd =>
     cases hi : P.info? fd.type with
     | none => simp only [cOp, hu, hf, hi] at e; exact (zc rfl e).elim
     | some i =>
      simp only [cOp, hu, hf, hi] at e;cases hb : Nat.beq i.size 0 with
      | true => rw [hb] at e; exact (zc rfl e).elim
      | false =>
       rw [hb] at e;cases hx : cOpd x with
       | none => simp only [hx] at e; exact (zc rfl e).elim
       | some g => simp only [hx] at e; unfold execOp; simp only [ho]; exact zqz (call := call) (t := t) H hu hf hi hb (zl T hx) e
 case field ty x f =>
  cases hu : P.underlying ty with
  | none => simp only [cOp, hu] at e; exact (zc rfl e).elim
  | some d =>
   cases d <;> try (simp only [cOp, hu] at e; exact (zc rfl e).elim)
   case struct fs =>
    cases hf : fs[f]? with
    | none => simp only [cOp, hu, hf] at e; exact (zc rfl e).elim
    | some fd =>
     cases hx : cOpd x with
     | none => simp only [cOp, hu, hf, hx] at e; exact (zc rfl e).elim
     | some g =>
      cases hs : xx P fd.type with
      | none => simp only [cOp, hu, hf, hx, hs] at e; exact (zc rfl e).elim
      | some n => simp only [cOp, hu, hf, hx, hs] at e; unfold execOp; simp only [ho]; exact zoA (call := call) (t := t) H hu hf hs (zl T hx) e
 case indexAddr ty x i =>
  cases hu : P.underlying ty with
  | none => simp only [cOp, hu] at e; exact (zc rfl e).elim
  | some d =>
   cases d <;> try (simp only [cOp, hu] at e; exact (zc rfl e).elim)
   case slice el =>
    cases hi : P.info? el with
    | none => simp only [cOp, hu, hi] at e; exact (zc rfl e).elim
    | some info =>
     cases hx : cOpd x with
     | none => simp only [cOp, hu, hi, hx] at e; exact (zc rfl e).elim
     | some g =>
      cases hj : cOpd i with
      | none => simp only [cOp, hu, hi, hx, hj] at e; exact (zc rfl e).elim
      | some k => simp only [cOp, hu, hi, hx, hj] at e; unfold execOp; simp only [ho]; exact zsE (call := call) (t := t) H hu hi (zl T hx) (zl T hj).1 e
   case array len el =>
    cases hi : P.info? el with
    | none => simp only [cOp, hu, hi] at e; exact (zc rfl e).elim
    | some info =>
     cases hx : cOpd x with
     | none => simp only [cOp, hu, hi, hx] at e; exact (zc rfl e).elim
     | some g =>
      cases hj : cOpd i with
      | none => simp only [cOp, hu, hi, hx, hj] at e; exact (zc rfl e).elim
      | some k => simp only [cOp, hu, hi, hx, hj] at e; unfold execOp; simp only [ho]; exact zoy (call := call) (t := t) H hu hi (zl T hx) (zl T hj).1 e
 case index ty x i =>
  cases hu : P.underlying ty with
  | none => simp only [cOp, hu] at e; exact (zc rfl e).elim
  | some d =>
   cases d <;> try (simp only [cOp, hu] at e; exact (zc rfl e).elim)
   case array len el =>
    cases hi : P.info? el with
    | none => simp only [cOp, hu, hi] at e; exact (zc rfl e).elim
    | some info =>
     cases hs : xx P el with
     | none => simp only [cOp, hu, hi, hs] at e; exact (zc rfl e).elim
     | some n =>
      cases hx : cOpd x with
      | none => simp only [cOp, hu, hi, hs, hx] at e; exact (zc rfl e).elim
      | some g =>
       cases hj : cOpd i with
       | none => simp only [cOp, hu, hi, hs, hx, hj] at e; exact (zc rfl e).elim
       | some k => simp only [cOp, hu, hi, hs, hx, hj] at e; unfold execOp; simp only [ho]; exact zoz (call := call) (t := t) H hu hi hs (zl T hx) (zl T hj).1 e
   case string =>
    cases hx : cOpd x with
    | none => simp only [cOp, hu, hx] at e; exact (zc rfl e).elim
    | some g =>
     cases hj : cOpd i with
     | none => simp only [cOp, hu, hx, hj] at e; exact (zc rfl e).elim
     | some k => simp only [cOp, hu, hx, hj] at e; unfold execOp; simp only [ho]; exact zox (call := call) (t := t) H hu (zl T hx).1 (zl T hj).1 e
 case lookup ty m k ok =>
  cases hu : P.underlying ty with
  | none => simp only [cOp, hu] at e; exact (zc rfl e).elim
  | some d =>
   cases d <;> try (simp only [cOp, hu] at e; exact (zc rfl e).elim)
   case map kt el =>
    cases hk : keyT P kt with
    | none => simp only [cOp, hu, hk] at e; exact (zc rfl e).elim
    | some ks =>
     cases hz : zZ P el with
     | none => simp only [cOp, hu, hk, hz] at e; exact (zc rfl e).elim
     | some z =>
      cases hm : cOpd m with
      | none => simp only [cOp, hu, hk, hz, hm] at e; exact (zc rfl e).elim
      | some fm =>
       cases hkk : cOpd k with
       | none => simp only [cOp, hu, hk, hz, hm, hkk] at e; exact (zc rfl e).elim
       | some fk => simp only [cOp, hu, hk, hz, hm, hkk] at e; unfold execOp; simp only [ho]; exact zlR (call := call) (t := t) H hu hk hz (zl T hm).1 (zl T hkk).1 e
 case mapUpdate ty m k x =>
  cases hu : P.underlying ty with
  | none => simp only [cOp, hu] at e; exact (zc rfl e).elim
  | some d =>
   cases d <;> try (simp only [cOp, hu] at e; exact (zc rfl e).elim)
   case map kt el =>
    cases hk : keyT P kt with
    | none => simp only [cOp, hu, hk] at e; exact (zc rfl e).elim
    | some ks =>
     cases hm : cOpd m with
     | none => simp only [cOp, hu, hk, hm] at e; exact (zc rfl e).elim
     | some fm =>
      cases hkk : cOpd k with
      | none => simp only [cOp, hu, hk, hm, hkk] at e; exact (zc rfl e).elim
      | some fk =>
       cases hx : cOpd x with
       | none => simp only [cOp, hu, hk, hm, hkk, hx] at e; exact (zc rfl e).elim
       | some fx => simp only [cOp, hu, hk, hm, hkk, hx] at e; unfold execOp; simp only [ho]; exact znk (call := call) (t := t) H hu hk (zl T hm).1 (zl T hkk) (zl T hx) e
 case insert ty m k x =>
  cases hu : P.underlying ty with
  | none => simp only [cOp, hu] at e; exact (zc rfl e).elim
  | some d =>
   cases d <;> try (simp only [cOp, hu] at e; exact (zc rfl e).elim)
   case map kt el =>
    cases hk : keyT P kt with
    | none => simp only [cOp, hu, hk] at e; exact (zc rfl e).elim
    | some ks =>
     cases hm : cOpd m with
     | none => simp only [cOp, hu, hk, hm] at e; exact (zc rfl e).elim
     | some fm =>
      cases hkk : cOpd k with
      | none => simp only [cOp, hu, hk, hm, hkk] at e; exact (zc rfl e).elim
      | some fk =>
       cases hx : cOpd x with
       | none => simp only [cOp, hu, hk, hm, hkk, hx] at e; exact (zc rfl e).elim
       | some fx => simp only [cOp, hu, hk, hm, hkk, hx] at e; unfold execOp; simp only [ho]; exact znk (call := call) (t := t) H hu hk (zl T hm).1 (zl T hkk) (zl T hx) e
 case mapEntry ty m k =>
  cases hu : P.underlying ty with
  | none => simp only [cOp, hu] at e; exact (zc rfl e).elim
  | some d =>
   cases d <;> try (simp only [cOp, hu] at e; exact (zc rfl e).elim)
   case map kt el =>
    cases hk : keyT P kt with
    | none => simp only [cOp, hu, hk] at e; exact (zc rfl e).elim
    | some ks =>
     cases hz : zZ P el with
     | none => simp only [cOp, hu, hk, hz] at e; exact (zc rfl e).elim
     | some z =>
      cases hm : cOpd m with
      | none => simp only [cOp, hu, hk, hz, hm] at e; exact (zc rfl e).elim
      | some fm =>
       cases hkk : cOpd k with
       | none => simp only [cOp, hu, hk, hz, hm, hkk] at e; exact (zc rfl e).elim
       | some fk => simp only [cOp, hu, hk, hz, hm, hkk] at e; unfold execOp; simp only [ho]; exact zlQ (call := call) (t := t) H hu hk hz (zl T hm).1 (zl T hkk) e
 case entryStore ty m s x =>
  cases hm : cOpd m with
  | none => simp only [cOp, hm] at e; exact (zc rfl e).elim
  | some fm =>
   cases hs : cOpd s with
   | none => simp only [cOp, hm, hs] at e; exact (zc rfl e).elim
   | some fs =>
    cases hx : cOpd x with
    | none => simp only [cOp, hm, hs, hx] at e; exact (zc rfl e).elim
    | some fx => simp only [cOp, hm, hs, hx] at e; unfold execOp; simp only [ho]; exact zlS (call := call) (t := t) H (zl T hm).1 (zl T hs).1 (zl T hx) e
 case extract x i =>
  cases hx : cOpd x with
  | none => simp only [cOp, hx] at e; exact (zc rfl e).elim
  | some f => simp only [cOp, hx] at e; unfold execOp; simp only [ho]; exact zjd (call := call) (t := t) H (zl T hx) e
 case binOp op ty x y yt =>
  cases hu : P.underlying ty with
  | none => simp only [cOp, hu] at e; exact (zc rfl e).elim
  | some d =>
   cases hx : cOpd x with
   | none =>
    exfalso
    revert e
    cases d <;> cases op <;> simp only [cOp, hu, hx] <;> first | (intro e; exact zc rfl e) | (cases xz P _ <;> (intro e; exact zc rfl e)) | (cases P.eqGuardType P.depth ty <;> cases keyT P ty <;> (intro e; exact zc rfl e))
   | some fx =>
    cases hy : cOpd y with
    | none =>
     exfalso
     revert e
     cases d <;> cases op <;> simp only [cOp, hu, hx, hy] <;> first | (intro e; exact zc rfl e) | (cases xz P _ <;> (intro e; exact zc rfl e)) | (cases P.eqGuardType P.depth ty <;> cases keyT P ty <;> (intro e; exact zc rfl e))
    | some fy =>
     have ox := zl T hx;have oy := zl T hy;unfold execOp; simp only [ho];have eq_case : (∀ k, d ≠ .int k) → d ≠ .string → ∀ neg : Bool, op = (bif neg then .neq else .eql) →
       zV (bif P.eqGuardType P.depth ty then none else do pure (opEq (← keyT P ty) neg fx fy)) call t h = some (v, h2) →
       Done w0 S φ h v h2 ((do pure (Next.value (← (do eqGuard op ty x y (a.eval x) (a.eval y); binOp op ty (a.eval x) (a.eval y)))) : Sem Next).run P w) := by
      intro hni hns neg hop e;cases hg : P.eqGuardType P.depth ty with
      | true => rw [hg] at e; exact (zc rfl e).elim
      | false =>
       rw [hg] at e;cases hk : keyT P ty with
       | none => rw [hk] at e; exact (zc rfl e).elim
       | some ks =>
        rw [hk] at e;exact s_eq (call := call) H hop hg hk (fun j hj => hni j (by rw [hu] at hj; exact Option.some.inj hj)) (fun hj => hns (by rw [hu] at hj; exact Option.some.inj hj)) ox.1 oy.1 e
     cases d
     case int k =>
      by_cases h1 : op = .shl
      ·subst h1; simp only [cOp, hu, hx, hy] at e; exact zja (call := call) H (.inl ⟨rfl, rfl⟩) ox.1 oy.1 e
      ·by_cases h2' : op = .shr
       ·subst h2'; simp only [cOp, hu, hx, hy] at e; exact zja (call := call) H (.inr ⟨rfl, rfl⟩) ox.1 oy.1 e
       ·have e' : qR (wQ op) fx fy call t h = some (v, h2) := by
         cases op <;> simp only [cOp, hu, hx, hy] at e <;> first | exact e | exact absurd rfl h1 | exact absurd rfl h2'
        exact zsF (call := call) H ox.1 oy.1 e'
     case string => simp only [cOp, hu, hx, hy] at e; exact zsB (call := call) H ox.1 oy.1 e
     case slice el =>
      cases op <;> simp only [cOp, hu, hx, hy] at e <;> try (exact (zc rfl e).elim)
      case eql => exact zni (call := call) H (neg := false) rfl hu ox.1 oy.1 e
      case neq => exact zni (call := call) H (neg := true) rfl hu ox.1 oy.1 e
     case pointer te =>
      cases hsz : xz P te with
      | false => cases op <;> simp only [cOp, hu, hx, hy, hsz] at e <;> exact (zc rfl e).elim
      | true =>
       cases op <;> simp only [cOp, hu, hx, hy, hsz] at e <;> try (exact (zc rfl e).elim)
       case eql => exact zjb (call := call) H (neg := false) rfl hu hsz ox.1 oy.1 e
       case neq => exact zjb (call := call) H (neg := true) rfl hu hsz ox.1 oy.1 e
     case func ps rs va =>
      cases op <;> simp only [cOp, hu, hx, hy] at e <;> try (exact (zc rfl e).elim)
      case eql => exact znj (call := call) H (neg := false) rfl hu ox.1 oy.1 e
      case neq => exact znj (call := call) H (neg := true) rfl hu ox.1 oy.1 e
     all_goals
      cases op <;> simp only [cOp, hu, hx, hy] at e <;> first
       | exact eq_case (by intro k hk; cases hk) (by intro hk; cases hk) false rfl e
       | exact eq_case (by intro k hk; cases hk) (by intro hk; cases hk) true rfl e
       | (exfalso; revert e; cases P.eqGuardType P.depth ty <;> (intro e; exact zc rfl e))
 case call c =>
  obtain ⟨callee, args, argTypes⟩ := c;cases callee with
  | value f => cases hp
  | invoke r m => cases hp
  | builtin b =>
   cases b <;> try (simp only [cOp] at e; exact (zc rfl e).elim)
   case len =>
    cases hat : argTypes[0]? with
    | none => simp only [cOp, hat] at e; exact (zc rfl e).elim
    | some ty =>
     cases har : args[0]? with
     | none => simp only [cOp, hat, har] at e; exact (zc rfl e).elim
     | some x =>
      cases hu : P.underlying ty with
      | none => simp only [cOp, hat, har, hu] at e; exact (zc rfl e).elim
      | some d =>
       have ha : (args.map a.eval)[0]? = some (a.eval x) := by simp [har]
       unfold execOp; simp only [ho];simp only [resolve, invoke, builtin, pure, bind, Sem.bind];cases d <;> try (simp only [cOp, hat, har, hu] at e; exact (zc rfl e).elim)
       case array len el =>
        simp only [cOp, hat, har, hu] at e;cases e;refine Done.same H ?_ (zq ?_)
        ·exact trivial
        ·simp [Builtin.len_, hat, ha, run_underlying hu, goInt]; rfl
       case string =>
        cases hx : cOpd x with
        | none => simp only [cOp, hat, har, hu, hx] at e; exact (zc rfl e).elim
        | some f => simp only [cOp, hat, har, hu, hx] at e; exact zqw (call := call) H hu (zl T hx).1 hat ha e
       case slice el =>
        cases hx : cOpd x with
        | none => simp only [cOp, hat, har, hu, hx] at e; exact (zc rfl e).elim
        | some f => simp only [cOp, hat, har, hu, hx] at e; exact zqy (call := call) H hu (zl T hx).1 hat ha e
       case map k el =>
        cases hx : cOpd x with
        | none => simp only [cOp, hat, har, hu, hx] at e; exact (zc rfl e).elim
        | some f => simp only [cOp, hat, har, hu, hx] at e; exact zqx (call := call) H hu (zl T hx).1 hat ha e
   case append =>
    obtain ⟨ats⟩ := argTypes;obtain ⟨ars⟩ := args;cases ats with
    | nil => simp only [cOp] at e; exact (zc rfl e).elim
    | cons ty ats =>
     cases ats with
     | nil => simp only [cOp] at e; exact (zc rfl e).elim
     | cons tx ats =>
      cases ats with
      | cons _ _ => simp only [cOp] at e; exact (zc rfl e).elim
      | nil =>
       cases ars with
       | nil => simp only [cOp] at e; exact (zc rfl e).elim
       | cons s ars =>
        cases ars with
        | nil => simp only [cOp] at e; exact (zc rfl e).elim
        | cons x ars =>
         cases ars with
         | cons _ _ => simp only [cOp] at e; exact (zc rfl e).elim
         | nil =>
          simp only [cOp] at e;cases hu : P.underlying ty with
          | none => rw [hu] at e; exact (zc rfl e).elim
          | some d =>
           rw [hu] at e;cases d <;> try (exact (zc rfl e).elim)
           case slice el =>
            simp only at e;cases hi : P.info? el with
            | none => rw [hi] at e; exact (zc rfl e).elim
            | some i =>
             cases hz : zZ P el with
             | none => rw [hi, hz] at e; exact (zc rfl e).elim
             | some z =>
              rw [hi, hz] at e;simp only at e;cases hb : (Nat.beq z.cells.length i.size && !Nat.beq i.size 0) with
              | false => rw [hb] at e; exact (zc rfl e).elim
              | true =>
               rw [hb] at e;simp only [LzC] at hb;cases hu2 : P.underlying tx with
               | none => rw [hu2] at e; exact (zc rfl e).elim
               | some d2 =>
                rw [hu2] at e;cases hs : cOpd s with
                | none => rw [hs] at e; cases d2 <;> first | exact (zc rfl e).elim | (cases hq : Nat.beq i.size 1 <;> simp only [hq] at e <;> exact (zc rfl e).elim) | (cases hq : (yy P el && Nat.beq i.size 1) <;> simp only [hq] at e <;> exact (zc rfl e).elim)
                | some fs =>
                 cases hx : cOpd x with
                 | none => rw [hs, hx] at e; cases d2 <;> first | exact (zc rfl e).elim | (cases hq : Nat.beq i.size 1 <;> simp only [hq] at e <;> exact (zc rfl e).elim) | (cases hq : (yy P el && Nat.beq i.size 1) <;> simp only [hq] at e <;> exact (zc rfl e).elim)
                 | some fx =>
                  rw [hs, hx] at e;unfold execOp; simp only [ho];simp only [resolve, invoke, builtin, pure, bind, Sem.bind];have hmm : Array.map a.eval ⟨[s, x]⟩ = #[a.eval s, a.eval x] := by simp
                  rw [hmm];cases d2 <;> try (exact (zc rfl e).elim)
                  case slice el2 =>
                   simp only at e;cases hq : yy P el && Nat.beq i.size 1 with
                   | false => rw [hq] at e; exact jU (call := call) H hu hi hz (beq_true hb.1) (.inl ⟨rfl, _, hu2⟩) (zl T hs) (zl T hx).1 e
                   | true =>
                    rw [hq] at e;rw [LzC] at hq;exact zjf (call := call) H hu hi hz (beq_true hb.1) (beq_true hq.2) hu2 (zl T hs) (zl T hx).1 e
                  case string =>
                   simp only at e;cases h1 : Nat.beq i.size 1 with
                   | false => rw [h1] at e; exact (zc rfl e).elim
                   | true => rw [h1] at e; exact zje (call := call) H hu hi hz (beq_true hb.1) (beq_true h1) hu2 (zl T hs) (zl T hx).1 e
   case unsafeSliceData =>
    obtain ⟨ars⟩ := args;cases ars with
    | nil => simp only [cOp] at e; exact (zc rfl e).elim
    | cons x ars =>
     cases ars with
     | cons _ _ => simp only [cOp] at e; exact (zc rfl e).elim
     | nil =>
      simp only [cOp] at e;cases hx : cOpd x with
      | none => rw [hx] at e; exact (zc rfl e).elim
      | some f =>
       rw [hx] at e;unfold execOp; simp only [ho];simp only [resolve, invoke, builtin, pure, bind, Sem.bind];have hmm : Array.map a.eval ⟨[x]⟩ = #[a.eval x] := by simp
       rw [hmm];exact zff (call := call) H (zl T hx) e
   case unsafeString =>
    obtain ⟨ats⟩ := argTypes;obtain ⟨ars⟩ := args;cases ats with
    | nil => simp only [cOp] at e; exact (zc rfl e).elim
    | cons pt ats =>
     cases ats with
     | nil => simp only [cOp] at e; exact (zc rfl e).elim
     | cons it ats =>
      cases ats with
      | cons _ _ => simp only [cOp] at e; exact (zc rfl e).elim
      | nil =>
       cases ars with
       | nil => simp only [cOp] at e; exact (zc rfl e).elim
       | cons x ars =>
        cases ars with
        | nil => simp only [cOp] at e; exact (zc rfl e).elim
        | cons y ars =>
         cases ars with
         | cons _ _ => simp only [cOp] at e; exact (zc rfl e).elim
         | nil =>
          simp only [cOp] at e;cases hu : P.underlying pt with
          | none => rw [hu] at e; exact (zc rfl e).elim
          | some d =>
           rw [hu] at e;cases d <;> try (exact (zc rfl e).elim)
           case pointer el =>
            simp only at e;cases hb : yy P el && Nat.beq (P.cellsOf el) 1 with
            | false => rw [hb] at e; exact (zc rfl e).elim
            | true =>
             rw [hb] at e;simp only [LzC] at hb;cases hx : cOpd x with
             | none => rw [hx] at e; exact (zc rfl e).elim
             | some fx =>
              cases hy : cOpd y with
              | none => rw [hx, hy] at e; exact (zc rfl e).elim
              | some fy =>
               rw [hx, hy] at e;unfold execOp; simp only [ho];simp only [resolve, invoke, builtin, pure, bind, Sem.bind];have hmm : Array.map a.eval ⟨[x, y]⟩ = #[a.eval x, a.eval y] := by simp
               rw [hmm];exact zqC (call := call) H hu (beq_true hb.2) (zl T hx).1 (zl T hy).1 e
   case cap =>
    cases hat : argTypes[0]? with
    | none => simp only [cOp, hat] at e; exact (zc rfl e).elim
    | some ty =>
     cases har : args[0]? with
     | none => simp only [cOp, hat, har] at e; exact (zc rfl e).elim
     | some x =>
      cases hu : P.underlying ty with
      | none => simp only [cOp, hat, har, hu] at e; exact (zc rfl e).elim
      | some d =>
       have ha : (args.map a.eval)[0]? = some (a.eval x) := by simp [har]
       unfold execOp; simp only [ho];simp only [resolve, invoke, builtin, pure, bind, Sem.bind];cases d <;> try (simp only [cOp, hat, har, hu] at e; exact (zc rfl e).elim)
       case slice el =>
        cases hx : cOpd x with
        | none => simp only [cOp, hat, har, hu, hx] at e; exact (zc rfl e).elim
        | some f => simp only [cOp, hat, har, hu, hx] at e; exact zsG (call := call) H hu (zl T hx).1 hat ha e
   case copy =>
    obtain ⟨ats⟩ := argTypes;obtain ⟨ars⟩ := args;cases ats with
    | nil => simp only [cOp] at e; exact (zc rfl e).elim
    | cons ty ats =>
     cases ats with
     | nil => simp only [cOp] at e; exact (zc rfl e).elim
     | cons tx ats =>
      cases ats with
      | cons _ _ => simp only [cOp] at e; exact (zc rfl e).elim
      | nil =>
       cases ars with
       | nil => simp only [cOp] at e; exact (zc rfl e).elim
       | cons x ars =>
        cases ars with
        | nil => simp only [cOp] at e; exact (zc rfl e).elim
        | cons y ars =>
         cases ars with
         | cons _ _ => simp only [cOp] at e; exact (zc rfl e).elim
         | nil =>
          simp only [cOp] at e;cases hu : P.underlying ty with
          | none => rw [hu] at e; exact (zc rfl e).elim
          | some d =>
           cases hu2 : P.underlying tx with
           | none => rw [hu, hu2] at e; cases d <;> exact (zc rfl e).elim
           | some d2 =>
            rw [hu, hu2] at e;cases d <;> cases d2 <;> try (exact (zc rfl e).elim)
            rename_i el el2;simp only at e;cases hi : P.info? el with
            | none => rw [hi] at e; exact (zc rfl e).elim
            | some i =>
             rw [hi] at e;simp only at e;cases h0 : Nat.beq i.size 0 with
             | true => rw [h0] at e; exact (zc rfl e).elim
             | false =>
              rw [h0] at e;cases hx : cOpd x with
              | none => rw [hx] at e; exact (zc rfl e).elim
              | some fx =>
               cases hy : cOpd y with
               | none => rw [hx, hy] at e; exact (zc rfl e).elim
               | some fy =>
                rw [hx, hy] at e;unfold execOp; simp only [ho];simp only [resolve, invoke, builtin, pure, bind, Sem.bind];have hmm : Array.map a.eval ⟨[x, y]⟩ = #[a.eval x, a.eval y] := by simp
                rw [hmm];exact zqA (call := call) H hu hi (zl T hx).1 (zl T hy).1 e
   case clear =>
    cases hat : argTypes[0]? with
    | none => simp only [cOp, hat] at e; exact (zc rfl e).elim
    | some ty =>
     cases har : args[0]? with
     | none => simp only [cOp, hat, har] at e; exact (zc rfl e).elim
     | some x =>
      cases hu : P.underlying ty with
      | none => simp only [cOp, hat, har, hu] at e; exact (zc rfl e).elim
      | some d =>
       cases d <;> try (simp only [cOp, hat, har, hu] at e; exact (zc rfl e).elim)
       case slice el =>
        cases hi : P.info? el with
        | none => simp only [cOp, hat, har, hu, hi] at e; exact (zc rfl e).elim
        | some i =>
         cases hz : zZ P el with
         | none => simp only [cOp, hat, har, hu, hi, hz] at e; exact (zc rfl e).elim
         | some z =>
          simp only [cOp, hat, har, hu, hi, hz] at e;cases hb : (Nat.beq z.cells.length i.size && !Nat.beq i.size 0) with
          | false => rw [hb] at e; exact (zc rfl e).elim
          | true =>
           rw [hb] at e;simp only [LzC, Bool.not_eq_true'] at hb;cases hx : cOpd x with
           | none => rw [hx] at e; exact (zc rfl e).elim
           | some f =>
            rw [hx] at e;have ha : (args.map a.eval)[0]? = some (a.eval x) := by simp [har]
            unfold execOp; simp only [ho];simp only [resolve, invoke, builtin, pure, bind, Sem.bind];exact zoB (call := call) H hu hi hz (beq_true hb.1) (beq_false hb.2) (zl T hx).1 hat ha e
   case max =>
    simp only [cOp] at e;cases hx : args.toList with
    | nil => rw [hx] at e; exact (zc rfl e).elim
    | cons x xs =>
     rw [hx] at e;simp only [vr] at e;cases h1 : cOpd x with
     | none => rw [h1] at e; exact (zc rfl e).elim
     | some f =>
      cases h2' : vr xs with
      | none => rw [h1, h2'] at e; exact (zc rfl e).elim
      | some fs =>
       rw [h1, h2'] at e;unfold execOp; simp only [ho];simp only [resolve, invoke, builtin, pure, bind, Sem.bind];refine zgy (call := call) (isMax := true) H T h1 h2' (s := fun as => Builtin.max_ _ _ as) (fun as ha => ?_) (by simp [hx]) e
       unfold Builtin.max_;rw [ha];rfl
   case min =>
    simp only [cOp] at e;cases hx : args.toList with
    | nil => rw [hx] at e; exact (zc rfl e).elim
    | cons x xs =>
     rw [hx] at e;simp only [vr] at e;cases h1 : cOpd x with
     | none => rw [h1] at e; exact (zc rfl e).elim
     | some f =>
      cases h2' : vr xs with
      | none => rw [h1, h2'] at e; exact (zc rfl e).elim
      | some fs =>
       rw [h1, h2'] at e;unfold execOp; simp only [ho];simp only [resolve, invoke, builtin, pure, bind, Sem.bind];refine zgy (call := call) (isMax := false) H T h1 h2' (s := fun as => Builtin.min_ _ _ as) (fun as ha => ?_) (by simp [hx]) e
       unfold Builtin.min_;rw [ha];rfl
end
end Go.CE
end
section
namespace Go.CE
open Go.RowKit
abbrev FR (ro : Option Nat) : Fence := { Fence.wide with round := ro }
theorem zhG {ro : Option Nat} {n : Nat} {P : Program} {f : FuncId} {args : Array Value} {w : World} {R : Ending → World → Prop} (h : CallsIn (FR none) n P f args w R) : CallsIn (FR ro) n P f args w R := h
theorem zna {ro : Option Nat} {n : Nat} {P : Program} {l : Nat} {f : FuncId} {tmps : Array Value} {assign body : Code} {w : World} {R : Ending → World → Prop} (h : RoundIn (FR none) n P l f tmps assign body w R) : RoundIn (FR ro) n P l f tmps assign body w R := h
def Ret (w0 : World) (S : Nat → Prop) (φ : Phi) (h : AHeap) (v : AVal) (h2 : AHeap) (e : Ending) (w2 : World) : Prop :=
 ∃ φ2, e = .returned (zo φ2 v) ∧ Ext h.n.toNat φ φ2 ∧ HRel w0 S φ2 h2 w2 ∧ wfA φ2 h2.n.toNat v ∧ h.n.toNat ≤ h2.n.toNat
def xq (P : Program) (call : zh) : Prop :=
 ∀ (w0 : World) (S : Nat → Prop) (φ : Phi) (h : AHeap) (w : World) (args : List AVal) (v : AVal) (h2 : AHeap), HRel w0 S φ h w → (∀ x ∈ args, wfA φ h.n.toNat x) →
  (∀ g, call (.inl g) args h = some (v, h2) → (∀ as w, (callFunc g as).run P w = .ok (.enter g as) w) ∧ CallsIn (FR none) 0 P g (args.map (zo φ)).toArray w (Ret w0 S φ h v h2)) ∧
  (∀ l, call (.inr l) args h = some (v, h2) → ∃ f tmps assign body, (Instr.yield (φ l).blk (args.map (zo φ)).toArray).run P w = .ok (.round (φ l).blk f tmps assign body) w ∧
   RoundIn (FR none) 0 P (φ l).blk f tmps assign body w (Ret w0 S φ h v h2))
def Next1 (w0 : World) (S : Nat → Prop) (φ : Phi) (nt : Nat) (h : AHeap) (t2 : Tr AVal) (h2 : AHeap) (a : Act) (a2 : Act) (w2 : World) : Prop :=
 ∃ φ2, Ext h.n.toNat φ φ2 ∧ HRel w0 S φ2 h2 w2 ∧ TRel φ2 nt h2.n.toNat t2 a2.tmps ∧ a2.defers = a.defers ∧ h.n.toNat ≤ h2.n.toNat
section
variable {P : Program} {w0 : World} {S : Nat → Prop} {φ : Phi} {h h2 : AHeap} {w w2 : World} {nt : Nat} {t t2 : Tr AVal} {a : Act} {v : AVal} {call : zh} {ro : Option Nat}
theorem zk8 {c : Call} (e : cOp P (.defer c) call t h = some (v, h2)) : False := by cases e
theorem put_defers (a : Act) (d : Option Tmp) (x : Value) : (a.put d x).defers = a.defers := by cases d <;> rfl
theorem zmh (T : TRel φ nt h.n.toNat t a.tmps) {φ2 : Phi} (he : Ext h.n.toNat φ φ2) (H2 : HRel w0 S φ2 h2 w2) (hv : wfA φ2 h2.n.toNat v) (hn : h.n.toNat ≤ h2.n.toNat) (dst : Option Nat) (hd : inT nt dst = true) :
  Next1 w0 S φ nt h (setT t v (dst.map bn)) h2 a (a.put dst (zo φ2 v)) w2 :=
 ⟨φ2, he, H2, TRel.put (T.ext he hn) hv dst hd, put_defers _ _ _, hn⟩
theorem zd6 (C : xq P call) (H : HRel w0 S φ h w) {ar : Act} (T : TRel φ nt h.n.toNat t ar.tmps) {o : Oper} (hx : execOp a.eval o = execOp ar.eval o) (e : cOp P o.op call t h = some (v, h2)) {K : Act → World → Prop} {Q : Exit → Act → World → Prop}
  (hK : ∀ φ2 w2, Ext h.n.toNat φ φ2 → HRel w0 S φ2 h2 w2 → wfA φ2 h2.n.toNat v → h.n.toNat ≤ h2.n.toNat → K (a.put o.dst (zo φ2 v)) w2) : o.wpIn (FR ro) 0 P a w K Q := by
 refine ⟨fun f _ => trivial, ?_⟩
 rw [Oper.semAt_eq _ _ _ (fun c hc => by rw [hc] at e; exact zk8 e)]
 show o.uponIn (FR ro) 0 P a K Q ((execOp a.eval o).run P w);rw [hx];by_cases hp : zjw o.op = true
 ·obtain ⟨φ2, w2, hr, he, H2, hv, hn⟩ := zl7 (P := P) H T hp e;rcases hr with hr | ⟨hr, hu⟩
  ·rw [hr];exact hK _ _ he H2 hv hn
  ·rw [hr];subst hu;exact hK _ _ he H2 hv hn
 ·cases ho : o.op <;> rw [ho] at hp <;> try (exact absurd rfl hp)
  rename_i c;obtain ⟨callee, args, argTypes⟩ := c;cases callee with
  | builtin b => exact absurd rfl hp
  | invoke r m => rw [ho] at e; cases e
  | value f =>
   rw [ho] at e;cases hk : Nat.beq (jJ P f) 0 with
   | false =>
    simp only [cOp, hk] at e;have e : zV (cExt cOpd (jJ P f) args.toList) call t h = some (v, h2) := e;obtain ⟨g, rfl, hext⟩ := zpM (P := P) (f := f) rfl (beq_false hk);obtain ⟨args⟩ := args;have hfv : ar.eval (.func g) = .func (.func g) #[] #[] := rfl;unfold cExt at e;split at e
    ·rename_i x hargs;cases h1 : Nat.beq (jJ P (.func g)) 1 with
     | false => rw [h1] at e; exact (zc rfl e).elim
     | true =>
      rw [h1] at e;simp only [cond_true] at e;cases hx : cOpd x with
      | none => rw [hx] at e; exact (zc rfl e).elim
      | some fx =>
       rw [hx] at e;have e : opMv fx call t h = some (v, h2) := e;cases e;have ox := zl T hx;rcases hext with ⟨_, hrun⟩ | ⟨h2', _⟩
       ·have hal : args = [x] := hargs;subst hal;have hr : (execOp ar.eval o).run P w = .ok (.value (zo φ (fx t))) w := by
         unfold execOp;simp only [ho, resolve, hfv, Deferred.ofValue, Sem.run_bind, Sem.run_pure, Result.andThen_ok, invoke, Array.empty_append];have hmm : Array.map ar.eval ⟨[x]⟩ ++ #[] = #[ar.eval x] := by simp
         rw [hmm, hrun, ox.1]
        rw [hr];exact hK φ w (Ext.refl _ _) H ox.2 (LzB _)
       ·rw [h2'] at h1; cases h1
    ·rename_i x y hargs;cases h1 : Nat.beq (jJ P (.func g)) 2 with
     | false => rw [h1] at e; exact (zc rfl e).elim
     | true =>
      rw [h1] at e;simp only [cond_true] at e;cases hx : cOpd x with
      | none => rw [hx] at e; exact (zc rfl e).elim
      | some fx =>
       cases hy : cOpd y with
       | none => rw [hx, hy] at e; exact (zc rfl e).elim
       | some fy =>
        rw [hx, hy] at e;have e : zgO fx fy call t h = some (v, h2) := e;have ox := zl T hx;have oy := zl T hy;unfold zgO at e;split at e
        ·rename_i sx sy hsx hsy;cases e;rw [hsx] at ox;rw [hsy] at oy;rcases hext with ⟨h2', _⟩ | ⟨_, hrun⟩
         ·rw [h2'] at h1; cases h1
         ·have hal : args = [x, y] := hargs;subst hal;have hr : (execOp ar.eval o).run P w = .ok (.value (.int .i64 (cmpS sx.data.toList sy.data.toList))) w := by
           unfold execOp;simp only [ho, resolve, hfv, Deferred.ofValue, Sem.run_bind, Sem.run_pure, Result.andThen_ok, invoke, Array.empty_append];have hmm : Array.map ar.eval ⟨[x, y]⟩ ++ #[] = #[.string sx, .string sy] := by
            have h1 : ar.eval x = .string sx := ox.1;have h2 : ar.eval y = .string sy := oy.1;simp [h1, h2]
           rw [hmm, hrun]
          rw [hr];exact hK φ w (Ext.refl _ _) H trivial (LzB _)
        ·cases e
    ·exact (zc rfl e).elim
   | true =>
   cases hf : cOpd f with
   | none => simp only [cOp, hk, hf] at e; exact (zc rfl e).elim
   | some ff =>
    cases ha : vr args.toList with
    | none => simp only [cOp, hk, hf, ha] at e; exact (zc rfl e).elim
    | some fa =>
     simp only [cOp, hk, hf, ha] at e;have e : zbX ff fa call t h = some (v, h2) := e;have of := zl T hf;have oa := zaE T ha;have hargs : args.map ar.eval = ((fa.map fun f => f t).map (zo φ)).toArray := by
      apply Array.ext'; rw [Array.toList_map, oa.1]
     unfold execOp; simp only [ho];unfold zbX at e;split at e
     ·rename_i g caps hg;rw [hg] at of;have hcap : ∀ x ∈ (caps.map fun p => AVal.s (.one (.ptr p.1 p.2))), wfA φ h.n.toNat x := by
       intro x hx;obtain ⟨p, hp', rfl⟩ := List.mem_map.1 hx;exact of.2 p hp'
      obtain ⟨hcf, hcall⟩ := (C w0 S φ h w _ v h2 H (by
       intro x hx;rcases List.mem_append.1 hx with hx | hx
       ·exact oa.2 x hx
       ·exact hcap x hx)).1 g e
      have hargs2 : ((fa.map (fun x => x t) ++ caps.map fun p => AVal.s (.one (.ptr p.1 p.2))).map (zo φ)).toArray = args.map ar.eval ++ (caps.map fun p => Value.pointer (some (adr φ p.1 p.2))).toArray := by
       rw [hargs, List.map_append, List.append_toArray]
       congr 2
       simp [List.map_map, Function.comp_def, zo, zF, zi]
      rw [hargs2] at hcall;have hfv : ar.eval f = .func (.func g) #[] (caps.map fun p => Value.pointer (some (adr φ p.1 p.2))).toArray := of.1
      simp only [resolve, hfv, Deferred.ofValue, Sem.run_bind, Sem.run_pure, Result.andThen_ok, invoke, Array.empty_append, hcf];refine ⟨fun hh => by simp [Fence.wide] at hh, zhG hcall |>.mono ?_⟩
      rintro e9 w9 ⟨φ2, rfl, he, H2, hv, hn⟩
      exact hK _ _ he H2 hv hn
     ·rename_i l hl;rw [hl] at of;obtain ⟨f9, tmps, assign, body, hy, hround⟩ := (C w0 S φ h w _ v h2 H oa.2).2 l e;rw [← hargs] at hy;have hfv : ar.eval f = .func (.yield (φ l).blk) #[] #[] := of.1;simp only [resolve, hfv, Deferred.ofValue, Sem.run_bind, Sem.run_pure, Result.andThen_ok, invoke, Array.empty_append, hy];refine ⟨fun hh => by simp [Fence.wide] at hh, zna hround |>.mono ?_⟩
      rintro e9 w9 ⟨φ2, rfl, he, H2, hv, hn⟩
      exact hK _ _ he H2 hv hn
     ·cases e
theorem zsR (C : xq P call) (H : HRel w0 S φ h w) (T : TRel φ nt h.n.toNat t a.tmps) {o : Oper} (hd : inT nt o.dst = true) (e : cOp P o.op call t h = some (v, h2)) {K : Act → World → Prop} {Q : Exit → Act → World → Prop}
  (hK : ∀ a2 w2, Next1 w0 S φ nt h (setT t v (o.dst.map bn)) h2 a a2 w2 → K a2 w2) : o.wpIn (FR ro) 0 P a w K Q :=
 zd6 C H T rfl e fun _ _ he H2 hv hn => hK _ _ (zmh T he H2 hv hn o.dst hd)
theorem kQ (T : TRel φ nt h.n.toNat t a.tmps) {ops : Array Oper} {j d : Nat} (hj : (ops[j]?).bind (·.dst) = some d) (hd : d < nt) (b : Bool) :
  (yielded ops a.tmps j == some b) = want t (some (bn d, b)) := by
 unfold yielded want;rw [hj];simp only [Option.bind_some];rw [T.get d hd];cases hg : t.get (bn d) with
 | none => rfl
 | some x =>
  simp only [Option.getD_some];cases x with
  | tup vs => rfl
  | s y =>
   cases y with
   | agg cs => rfl
   | one c => cases c <;> rfl
theorem zk7 {ops : Array Oper} {o : Oper} (e : qI call (yF P nt ops o) t h = some (t2, h2)) (T : TRel φ nt h.n.toNat t a.tmps) : inT nt o.dst = true ∧
    ((Region.wanted o (yielded ops a.tmps) = true ∧ ∃ v, cOp P o.op call t h = some (v, h2) ∧ t2 = setT t v (o.dst.map bn)) ∨
     (Region.wanted o (yielded ops a.tmps) = false ∧ t2 = setT t zX (o.dst.map bn) ∧ h2 = h)) := by
  unfold yF at e;have bad : ∀ {o' : ROper}, o' = ⟨none, yN, none⟩ → qI call o' t h = some (t2, h2) → False := by
    intro o' ho' e; subst ho'; cases e
  cases hd : inT nt o.dst with
  | false => rw [hd] at e; exact (bad rfl e).elim
  | true =>
    rw [hd] at e;refine ⟨rfl, ?_⟩;simp only [cond_true] at e;have fin : ∀ g, qI call ⟨o.dst.map bn, cOp P o.op, g⟩ t h = some (t2, h2) → (want t g = true ∧ ∃ v, cOp P o.op call t h = some (v, h2) ∧ t2 = setT t v (o.dst.map bn)) ∨ (want t g = false ∧ t2 = setT t zX (o.dst.map bn) ∧ h2 = h) := by
      intro g e;unfold qI at e;simp only at e;cases hw : want t g with
      | false => rw [hw] at e; cases e; exact .inr ⟨rfl, rfl, rfl⟩
      | true =>
        rw [hw] at e;simp only [cond_true] at e;unfold setR at e;split at e
        · rename_i v9 h9 hv; cases e; exact .inl ⟨rfl, v9, hv, rfl⟩
        · cases e
    split at e
    · rename_i hg
      rcases fin none e with hh | ⟨hw, _⟩
      · exact .inl ⟨by simp [Region.wanted, hg], hh.2⟩
      · cases hw
    · rename_i j b hg
      split at e
      · rename_i d hjd
        cases hb : Nat.ble (Nat.succ d) nt with
        | false => rw [hb] at e; exact (bad rfl e).elim
        | true =>
          rw [hb] at e;have hyd := kQ T hjd (zQ hb) b;rcases fin (some (bn d, b)) e with ⟨hw, hh⟩ | ⟨hw, hh⟩
          · exact .inl ⟨by simp only [Region.wanted, hg]; rw [hyd]; exact hw, hh⟩
          · exact .inr ⟨by simp only [Region.wanted, hg]; rw [hyd]; exact hw, hh⟩
      · exact (bad rfl e).elim
theorem zch (o : ROper) (os : List ROper) : zix call (o :: os) t h = match qI call o t h with | some (t2, h2) => zix call os t2 h2 | none => none := rfl
theorem Next1.refl (H : HRel w0 S φ h w) (T : TRel φ nt h.n.toNat t a.tmps) : Next1 w0 S φ nt h t h a a w := ⟨φ, Ext.refl _ _, H, T, rfl, LzB _⟩
theorem zjE (C : xq P call) {ops : Array Oper} {Q : Exit → Act → World → Prop} : ∀ (l : List Oper) {φ : Phi} {h : AHeap} {w : World} {t : Tr AVal} {a : Act}, HRel w0 S φ h w → TRel φ nt h.n.toNat t a.tmps →
  zix call (l.map (yF P nt ops)) t h = some (t2, h2) → (∀ a2 w2, Next1 w0 S φ nt h t2 h2 a a2 w2 → Q .normal a2 w2) → wpListIn (FR ro) 0 P ops Q l a w
 | [], φ, h, w, t, a, H, T, e, hQ => by
  cases e;exact hQ _ _ (Next1.refl H T)
 | o :: l, φ, h, w, t, a, H, T, e, hQ => by
  simp only [List.map_cons] at e;rw [zch] at e;split at e
  ·rename_i t1 h1 ho;obtain ⟨hd, hh⟩ := zk7 ho T;unfold wpListIn;rcases hh with ⟨hw, v, hv, rfl⟩ | ⟨hw, rfl, rfl⟩
   ·rw [if_pos hw];refine zsR C H T hd hv fun a2 w2 hn => ?_
    obtain ⟨φ2, he, H2, T2, hdef, hle⟩ := hn;refine zjE C l H2 T2 e fun a3 w3 hn3 => hQ a3 w3 ?_
    obtain ⟨φ3, he3, H3, T3, hdef3, hle3⟩ := hn3;exact ⟨φ3, he.trans he3 hle, H3, T3, hdef3.trans hdef, Nat.le_trans hle hle3⟩
   ·rw [if_neg (by rw [hw]; simp)]
    refine ⟨fun f _ => trivial, ?_⟩
    have T2 := TRel.put T (v := zX) (fun _ hv => by cases hv) o.dst hd
    refine zjE C l H T2 e fun a3 w3 hn3 => hQ a3 w3 ?_
    obtain ⟨φ3, he3, H3, T3, hdef3, hle3⟩ := hn3;exact ⟨φ3, he3, H3, T3, hdef3.trans (put_defers _ _ _), hle3⟩
  ·cases e
end
end Go.CE
end
section
namespace Go.CE
open Go.RowKit
def exOf : RExit → Exit
 | .normal => .normal
 | .exit id => .exit id
 | .ret => .ret
def marks (φ : Phi) (d : List BN) : List Deferred := d.map fun b => { target := .collected (φ b).blk, args := #[] }
structure SRel (w0 : World) (S : Nat → Prop) (φ : Phi) (nt : Nat) (s : St) (a : Act) (w : World) : Prop where
 H : HRel w0 S φ s.h w
 T : TRel φ nt s.h.n.toNat s.t a.tmps
 D : a.defers = marks φ s.d
 dn : ∀ b ∈ s.d, okB φ s.h.n.toNat b
def After (w0 : World) (S : Nat → Prop) (φ : Phi) (nt : Nat) (h : AHeap) (s2 : St) (a2 : Act) (w2 : World) : Prop :=
 ∃ φ2, Ext h.n.toNat φ φ2 ∧ SRel w0 S φ2 nt s2 a2 w2 ∧ h.n.toNat ≤ s2.h.n.toNat
def RoRel (φ : Phi) (n : Nat) : Option BN → Option Nat → Prop
 | none, ro => ro = none
 | some l, ro => ro = some (φ l).blk ∧ okB φ n l
theorem RoRel.ext {φ φ2 : Phi} {n m : Nat} {round : Option BN} {ro : Option Nat} (h : RoRel φ n round ro) (he : Ext n φ φ2) (hn : n ≤ m) : RoRel φ2 m round ro := by
 cases round with
 | none => exact h
 | some l => exact ⟨by rw [he l h.2.1]; exact h.1, okB.ext he hn h.2⟩
theorem zaT {φ φ2 : Phi} {n : Nat} (he : Ext n φ φ2) {d : List BN} (hd : ∀ b ∈ d, okB φ n b) : marks φ2 d = marks φ d :=
 List.map_congr_left fun b hb => by rw [he b (hd b hb).1]
theorem After.trans {w0 : World} {S : Nat → Prop} {φ φ1 : Phi} {nt : Nat} {h h1 : AHeap} {s2 : St} {a2 : Act} {w2 : World} (he : Ext h.n.toNat φ φ1) (hn : h.n.toNat ≤ h1.n.toNat) (hA : After w0 S φ1 nt h1 s2 a2 w2) : After w0 S φ nt h s2 a2 w2 := by
 obtain ⟨φ2, he2, hs, hle⟩ := hA;exact ⟨φ2, he.trans he2 hn, hs, Nat.le_trans hn hle⟩
section
variable {P : Program} {w0 : World} {S : Nat → Prop} {nt : Nat} {call : zh}
def w7 (P : Program) (w0 : World) (S : Nat → Prop) (nt : Nat) (call : zh) (c : Code) : Prop :=
 ∀ (f fn : Nat) (round : Option BN) (ro : Option Nat) (φ : Phi) (s s2 : St) (e : RExit) (a : Act) (w : World) (Q : Exit → Act → World → Prop), zW P nt c call f fn round s = some (e, s2) → SRel w0 S φ nt s a w → RoRel φ s.h.n.toNat round ro →
  (∀ a2 w2, After w0 S φ nt s.h s2 a2 w2 → Q (exOf e) a2 w2) → c.wpIn (FR ro) 0 P Q a w
theorem SRel.after {φ : Phi} {s : St} {a : Act} {w : World} (R : SRel w0 S φ nt s a w) : After w0 S φ nt s.h s a w := ⟨φ, Ext.refl _ _, R, LzB _⟩
theorem kV {φ : Phi} {s : St} {a a2 : Act} {w w2 : World} {t2 : Tr AVal} {h2 : AHeap} (R : SRel w0 S φ nt s a w) (hn : Next1 w0 S φ nt s.h t2 h2 a a2 w2) : After w0 S φ nt s.h ⟨t2, s.d, h2⟩ a2 w2 := by
 obtain ⟨φ2, he, H2, T2, hd, hle⟩ := hn;exact ⟨φ2, he, ⟨H2, T2, by rw [hd, R.D, zaT he R.dn], fun b hb => okB.ext he hle (R.dn b hb)⟩, hle⟩
theorem zjG (C : xq P call) (id : Nat) (ops : Array Oper) : w7 P w0 S nt call (.region id ops false) := by
 intro f fn round ro φ s s2 e a w Q hc R hr hQ;have hc : regF (ops.toList.map (yF P nt ops)) call f fn round s = some (e, s2) := hc;obtain ⟨t, d, h⟩ := s;simp only [regF] at hc;cases he : zix call (ops.toList.map (yF P nt ops)) t h with
 | none => rw [he] at hc; cases hc
 | some p =>
  obtain ⟨t2, h2⟩ := p;rw [he] at hc;cases hc;exact wpIn_region_list (zjE C ops.toList R.H R.T he fun a2 w2 hn => hQ a2 w2 (kV R hn))
theorem zqN {x y : Code} (hx : w7 P w0 S nt call x) (hy : w7 P w0 S nt call y) : w7 P w0 S nt call (.seq x y) := by
 intro f fn round ro φ s s2 e a w Q hc R hr hQ;have hc : zqj call f fn round (zW P nt y) (zW P nt x call f fn round s) = some (e, s2) := hc;cases h1 : zW P nt x call f fn round s with
 | none => rw [h1] at hc; cases hc
 | some p =>
  obtain ⟨e1, s1⟩ := p;rw [h1] at hc;refine wpIn_seq (hx f fn round ro φ s s1 e1 a w _ h1 R hr fun a1 w1 hA => ?_)
  cases e1 with
  | normal =>
   obtain ⟨φ1, he1, R1, hle1⟩ := hA;show y.wpIn (FR ro) 0 P Q a1 w1;exact hy f fn round ro φ1 s1 s2 e a1 w1 Q hc R1 (hr.ext he1 hle1) fun a2 w2 hA2 => hQ a2 w2 (hA2.trans he1 hle1)
  | exit id => cases hc; exact hQ a1 w1 hA
  | ret => cases hc; exact hQ a1 w1 hA
theorem zoQ {c : Operand} {x y : Code} (hx : w7 P w0 S nt call x) (hy : w7 P w0 S nt call y) : w7 P w0 S nt call (.cond c x y) := by
 intro f fn round ro φ s s2 e a w Q hc R hr hQ;cases hf : cOpd c with
 | none => simp only [zW, hf] at hc; cases hc
 | some g =>
  simp only [zW, hf] at hc;obtain ⟨t, d, h⟩ := s;simp only [zpU] at hc;split at hc
  ·rename_i q hq;have ho := (zl R.T hf).1;simp only at ho;rw [hq] at ho;refine wpIn_cond (t := q) ho ?_;cases q
   ·exact hy f fn round ro φ _ s2 e a w Q hc R hr hQ
   ·exact hx f fn round ro φ _ s2 e a w Q hc R hr hQ
  ·cases hc
theorem zma {id : Nat} {x : Code} (hx : w7 P w0 S nt call x) : w7 P w0 S nt call (.block id x) := by
 intro f fn round ro φ s s2 e a w Q hc R hr hQ;have hc : outF id (zW P nt x call f fn round s) = some (e, s2) := hc;cases h1 : zW P nt x call f fn round s with
 | none => rw [h1] at hc; cases hc
 | some p =>
  obtain ⟨e1, s1⟩ := p;rw [h1] at hc;refine wpIn_block (hx f fn round ro φ s s1 e1 a w _ h1 R hr fun a1 w1 hA => ?_)
  cases e1 with
  | normal => cases hc; exact hQ a1 w1 hA
  | ret => cases hc; exact hQ a1 w1 hA
  | exit id' =>
   simp only [outF] at hc;show (if id' = id then Q .normal a1 w1 else Q (.exit id') a1 w1)
   cases hb : Nat.beq id' id with
   | true => rw [hb] at hc; cases hc; rw [if_pos (beq_true hb)]; exact hQ a1 w1 hA
   | false => rw [hb] at hc; cases hc; rw [if_neg (beq_false hb)]; exact hQ a1 w1 hA
theorem zik (c : St → Option (RExit × St)) (n : Nat) (s : St) : zek c (n + 1) s = match c s with | some (.normal, s2) => zek c n s2 | r => r := rfl
theorem zoP {x : Code} (hx : w7 P w0 S nt call x) : w7 P w0 S nt call (.loop x) := by
 intro f fn round ro φ s s2 e a w Q hc R hr hQ;have hc : zek (zW P nt x call f fn round) f s = some (e, s2) := hc;have key : ∀ (n : Nat) (φ : Phi) (s : St) (a : Act) (w : World), zek (zW P nt x call f fn round) n s = some (e, s2) → SRel w0 S φ nt s a w → RoRel φ s.h.n.toNat round ro →
   (∀ a2 w2, After w0 S φ nt s.h s2 a2 w2 → Q (exOf e) a2 w2) → Code.roundsIn (FR ro) 0 P x Q n a w := by
  intro n
  induction n with
  | zero => intro φ s a w hc; cases hc
  | succ n ih =>
   intro φ s a w hc R hr hQ;rw [zik] at hc;cases h1 : zW P nt x call f fn round s with
   | none => rw [h1] at hc; cases hc
   | some p =>
    obtain ⟨e1, s1⟩ := p;rw [h1] at hc;rw [roundsIn_succ];refine hx f fn round ro φ s s1 e1 a w _ h1 R hr fun a1 w1 hA => ?_
    cases e1 with
    | normal =>
     obtain ⟨φ1, he1, R1, hle1⟩ := hA;show Code.roundsIn (FR ro) 0 P x Q n a1 w1;exact ih φ1 s1 a1 w1 hc R1 (hr.ext he1 hle1) fun a2 w2 hA2 => hQ a2 w2 (hA2.trans he1 hle1)
    | exit id => cases hc; exact hQ a1 w1 hA
    | ret => cases hc; exact hQ a1 w1 hA
 exact wpIn_loop_rounds f (key f φ s a w hc R hr hQ)
theorem zh4 {t : Tr AVal} {ds : List BN} {l : BN} {r : Res} {e : RExit} {s2 : St} (hc : zjn t ds l r = some (e, s2)) :
  ∃ x h st pend lf ln lt lps la lb ld, r = some (x, h) ∧ h.t.get l = some (.loop st pend lf ln lt lps la lb ld) ∧ st ≠ .busy ∧ e = pend.getD .normal ∧ s2 = ⟨t, ds, h.put l (.loop .exhausted pend lf ln lt lps la lb ld)⟩ := by
 unfold zjn at hc;split at hc
 ·rename_i x h;split at hc
  ·rename_i st pend lf ln lt lps la lb ld hl;split at hc
   ·cases hc
   ·rename_i hnb;cases hc;exact ⟨x, h, st, pend, lf, ln, lt, lps, la, lb, ld, rfl, hl, hnb, rfl, rfl⟩
  ·cases hc
 ·cases hc
theorem ziJ {ro : Option Nat} {Q : Exit → Act → World → Prop} {a : Act} {w : World} (e : RExit) (h : Q (exOf e) a w) : (qC e).wpIn (FR ro) 0 P Q a w := by
 cases e with
 | normal => exact wpIn_skip h
 | exit id => exact wpIn_exit h
 | ret => exact wpIn_ret h
theorem zl8 (C : xq P call) {g : Operand} {ps : Array Tmp} {assign body : Code} : w7 P w0 S nt call (.rangeFunc g ps assign body) := by
 intro f fn round ro φ s s2 e a w Q hc R hr hQ;cases hg : cOpd g with
 | none => simp only [zW, hg] at hc; cases hc
 | some gg =>
  simp only [zW, hg] at hc;obtain ⟨t, d, h⟩ := s;simp only [znl] at hc;have R' := R;obtain ⟨H, T, D, dn⟩ := R;simp only at H T D dn;split at hc
  ·cases hc
  ·rename_i bd ds h0 hD;split at hc
   ·rename_i gf caps hgv;obtain ⟨xv, h3, st, pend, lf, ln, lt, lps, la, lb, ld, hcall, hl3, hnb, he, hs2⟩ := zh4 hc;refine wpIn_rangeFunc fun fn' _ => ?_
    obtain ⟨φ0, mark, w0', hE0, H0, hn0, hbd, hmark, hrunE⟩ : ∃ (φ0 : Phi) (mark : List Deferred) (w1 : World), Ext h.n.toNat φ φ0 ∧ HRel w0 S φ0 h0 w1 ∧ h.n.toNat ≤ h0.n.toNat ∧ okB φ0 h0.n.toNat bd ∧
      (marks φ0 ds = mark ++ a.defers ∧ ∀ b ∈ ds, okB φ0 h0.n.toNat b) ∧
      (Instr.enterLoop fn' a.tmps ps assign body ro).run P w = .ok (w1.heap.size, mark) (w1.alloc (.loop { state := .ready, pending := none, fn := fn', tmps := a.tmps, params := ps, assign := assign, body := body, defers := (φ0 bd).blk })) := by
     cases round with
     | none =>
      have hro : ro = none := hr;subst hro;simp only [zjo] at hD;cases hD;refine ⟨upd φ h.n ⟨w.heap.size, 0, 0, true, none⟩, [{ target := .collected w.heap.size, args := #[] }], w.alloc (.deferred (some [])), z4 _ _ _, H.new _ _ _ rfl ?_, by rw [yi]; omega, ⟨by rw [yi]; omega, by rw [zm]⟩, ⟨?_, ?_⟩, ?_⟩
      ·show _ = _; rw [zm]; exact heap_alloc_new w _
      ·show marks _ (h.n :: d) = _;simp only [marks, List.map_cons, zm];have := zaT (z4 φ h.n ⟨w.heap.size, 0, 0, true, none⟩) dn;simp only [marks] at this;rw [this, D]; rfl
      ·intro b hb;rw [yi];cases hb with
       | head => exact ⟨by omega, by rw [zm]⟩
       | tail _ hm => exact okB.ext (z4 _ _ _) (Nat.le_succ _) (dn b hm)
      ·rw [zm];have := run_enterLoop_outer (P := P) (w := w) fn' a.tmps ps assign body;rw [this];simp
     | some l =>
      obtain ⟨hro, hln⟩ := hr;subst hro;simp only [zjo] at hD;split at hD
      ·rename_i st9 p9 f9 n9 t9 ps9 a9 b9 d9 hl9;cases hD;obtain ⟨arr, f8, g1, g2, g3⟩ := H.obj l _ hl9;refine ⟨φ, [], w, Ext.refl _ _, H, LzB _, g3, ⟨by rw [D]; rfl, dn⟩, ?_⟩
       exact run_enterLoop_inner (P := P) g1 fn' a.tmps ps assign body
      ·cases hD
    have T0 : TRel φ0 nt h0.n.toNat t a.tmps := T.ext hE0 hn0;have H1 : HRel w0 S (upd φ0 h0.n ⟨w0'.heap.size, 0, 0, true, none⟩) (h0.new (.loop .ready none fn nt t ps assign body bd)) (w0'.alloc (.loop { state := .ready, pending := none, fn := fn', tmps := a.tmps, params := ps, assign := assign, body := body, defers := (φ0 bd).blk })) := by
     refine H0.new _ _ ⟨w0'.heap.size, 0, 0, true, none⟩ rfl ?_;refine ⟨a.tmps, fn', ?_, T0.ext (z4 _ _ _) (Nat.le_succ _), okB.ext (z4 _ _ _) (Nat.le_succ _) hbd⟩;rw [zm, z4 φ0 h0.n _ bd hbd.1];exact heap_alloc_new w0' _
    have hE1 : Ext h.n.toNat φ (upd φ0 h0.n ⟨w0'.heap.size, 0, 0, true, none⟩) := hE0.trans (z4 _ _ _) hn0;have hn1 : (h0.new (.loop .ready none fn nt t ps assign body bd)).n.toNat = h0.n.toNat + 1 := yi _ _;have og := zl T0 hg;rw [hgv] at og;have hwcaps : ∀ x ∈ ([AVal.s (.one (.yld h0.n))] ++ caps.map fun p => AVal.s (.one (.ptr p.1 p.2))), wfA (upd φ0 h0.n ⟨w0'.heap.size, 0, 0, true, none⟩) (h0.new (.loop .ready none fn nt t ps assign body bd)).n.toNat x := by
     intro x hx;rw [hn1];rcases List.mem_append.1 hx with hx | hx
     ·simp only [List.mem_singleton] at hx;subst hx;exact ⟨Nat.lt_succ_self _, by rw [zm]⟩
     ·obtain ⟨p, hp, rfl⟩ := List.mem_map.1 hx;exact okB.ext (z4 _ _ _) (Nat.le_succ _) (og.2 p hp)
    obtain ⟨hcf, hcl⟩ := (C w0 S _ _ _ _ xv h3 H1 hwcaps).1 gf hcall;have hargs : (([AVal.s (.one (.yld h0.n))] ++ caps.map fun p => AVal.s (.one (.ptr p.1 p.2))).map (zo (upd φ0 h0.n ⟨w0'.heap.size, 0, 0, true, none⟩))).toArray = #[Value.func (.yield w0'.heap.size) #[] #[]] ++ (caps.map fun p => Value.pointer (some (adr φ0 p.1 p.2))).toArray := by
     rw [List.map_append, ← List.append_toArray]
     congr 1
     ·simp [zo, zF, zi, zm]
     ·simp only [List.map_map, Function.comp_def]
      congr 1
      refine List.map_congr_left fun p hp => ?_
      have := z4 φ0 h0.n ⟨w0'.heap.size, 0, 0, true, none⟩ p.1 (og.2 p hp).1;simp [zo, zF, zi, adr, Addr.add, this]
    rw [hargs] at hcl;have hgval : a.eval g = .func (.func gf) #[] (caps.map fun p => Value.pointer (some (adr φ0 p.1 p.2))).toArray := og.1
    refine ⟨w0'.heap.size, mark, _, { target := .fn (.func gf) (caps.map fun p => Value.pointer (some (adr φ0 p.1 p.2))).toArray, args := #[Value.func (.yield w0'.heap.size) #[] #[]] }, w0'.alloc (.loop { state := .ready, pending := none, fn := fn', tmps := a.tmps, params := ps, assign := assign, body := body, defers := (φ0 bd).blk }), gf,
     #[Value.func (.yield w0'.heap.size) #[] #[]] ++ (caps.map fun p => Value.pointer (some (adr φ0 p.1 p.2))).toArray, w0'.alloc (.loop { state := .ready, pending := none, fn := fn', tmps := a.tmps, params := ps, assign := assign, body := body, defers := (φ0 bd).blk }), hrunE, ?_, fun _ _ => trivial, ?_, fun hh => by simp [Fence.wide] at hh, zhG hcl |>.mono ?_⟩
    ·simp only [resolve, hgval, Deferred.ofValue, Sem.run_pure];simp [Act.eval]
    ·simp only [invoke, hcf]
    ·rintro e9 w9 ⟨φ3, rfl, he3, H3, _, hle3⟩
     rw [hn1] at he3 hle3;obtain ⟨arr, f8, g1, g2, g3⟩ := H3.obj h0.n _ hl3;have eb : (φ3 h0.n).blk = w0'.heap.size := by
      have := he3 h0.n (Nat.lt_succ_self _);rw [this, zm]
     rw [eb] at g1;have hend := run_endLoop (P := P) g1 hnb;have hlt : w0'.heap.size < w9.heap.size := (Lz7.1 g1).1;have H4 : HRel w0 S φ3 (h3.put h0.n (.loop .exhausted pend lf ln lt lps la lb ld)) (w9.putObj w0'.heap.size (.loop { state := .exhausted, pending := pend.map qC, fn := f8, tmps := arr, params := lps, assign := la, body := lb, defers := (φ3 ld).blk })) := by
      refine H3.put hl3 trivial (fun k hk => ?_) (by simp) rfl rfl rfl ⟨arr, f8, ?_, g2, g3⟩
      ·rw [eb] at hk; exact World.putObj_heap_other hk
      ·rw [eb]; exact World.putObj_heap_same hlt
     have hE3 : Ext h.n.toNat φ φ3 := hE1.trans he3 (by omega)
     have hA : After w0 S φ nt h s2 { a with defers := mark ++ a.defers } (w9.putObj w0'.heap.size (.loop { state := .exhausted, pending := pend.map qC, fn := f8, tmps := arr, params := lps, assign := la, body := lb, defers := (φ3 ld).blk })) := by
      subst hs2;refine ⟨φ3, hE3, ⟨H4, ?_, ?_, ?_⟩, ?_⟩
      ·exact T0.ext (fun b hb => (he3 b (by omega)).trans (z4 _ _ _ b hb)) (by show h0.n.toNat ≤ h3.n.toNat; omega)
      ·show mark ++ a.defers = marks φ3 ds;rw [← hmark.1];refine (zaT (n := h0.n.toNat) (fun b hb => ?_) hmark.2).symm
       exact (he3 b (by omega)).trans (z4 _ _ _ b hb)
      ·intro b hb;have := okB.ext (z4 φ0 h0.n ⟨w0'.heap.size, 0, 0, true, none⟩) (Nat.le_succ _) (hmark.2 b hb);exact okB.ext he3 (by show h0.n.toNat + 1 ≤ h3.n.toNat; omega) this
      ·show h.n.toNat ≤ h3.n.toNat; omega
     refine ⟨_, _, hend, ?_⟩;subst he;cases pend with
     | none => exact hQ _ _ hA
     | some e1 => exact ziJ e1 (hQ _ _ hA)
   ·cases hc
end
end Go.CE
end
section
namespace Go.CE
open Go.RowKit
def zY (f : OpFn) : Prop := ∀ call t h v h2, f call t h = some (v, h2) → h2 = h
theorem zy : zY (zV none) := fun _ _ _ _ _ e => by cases e
theorem zr {f : OpFn} (hf : zY f) : zY (zV (some f)) := hf
theorem zhU {α : Type} {a : Option α} {g : α → Option OpFn} (hg : ∀ x, zY (zV (g x))) : zY (zV (a.bind g)) := by
 cases a with
 | none => exact zy
 | some x => exact hg x
theorem zf {α : Type} {a : Option α} {g : α → Option OpFn} (hg : ∀ x, zY (zV (g x))) : zY (zV (a >>= g)) := zhU hg
theorem zdK {α : Type} {a : Option α} {g : α → OpFn} (hg : ∀ x, zY (g x)) : zY (zV (a.map g)) := by
 cases a with
 | none => exact zy
 | some x => exact hg x
theorem yX {b : Bool} {x y : Option OpFn} (hx : zY (zV x)) (hy : zY (zV y)) : zY (zV (bif b then x else y)) := by
 cases b
 ·exact hy
 ·exact hx
theorem zP {h h2 : AHeap} {c : Option CVal} {v : AVal} (e : retC h c = some (v, h2)) : h2 = h := by cases c <;> cases e; rfl
theorem yP {h h2 : AHeap} {c : Option (List CVal)} {v : AVal} (e : retA h c = some (v, h2)) : h2 = h := by cases c <;> cases e; rfl
theorem zT {h h2 : AHeap} {n : Option Nat} {cs : List CVal} {off : Nat} {v : AVal} (e : part n cs off h = some (v, h2)) : h2 = h := by
 cases n
 ·exact zP e
 ·exact yP e
theorem yC {h h2 : AHeap} {b : Bool} {x y : Res} {v : AVal} (hx : x = some (v, h2) → h2 = h) (hy : y = some (v, h2) → h2 = h) (e : (bif b then x else y) = some (v, h2)) : h2 = h := by
 cases b
 ·exact hy e
 ·exact hx e
theorem zdO {st : Nat} {lo hi mx : Option Opd} {t : Tr AVal} {h h2 : AHeap} {b : BN} {off len cap : Nat} {v : AVal} (e : y3 st lo hi mx t h b off len cap = some (v, h2)) : h2 = h := by
 unfold y3 at e
 (repeat' split at e) <;> first | (cases e; done) | exact yC (fun e => by cases e; rfl) (fun e => by cases e) e
theorem zi3 {st : Nat} {lo hi mx : Option Opd} {t : Tr AVal} {h h2 : AHeap} {b : BN} {off len cap : Nat} {v : AVal} (e : y0 st lo hi mx t h b off len cap = some (v, h2)) : h2 = h := by
 unfold y0 at e
 (repeat' split at e) <;> first | (cases e; done) | (cases e; rfl) | exact yC (fun e => by cases e; rfl) (fun e => by cases e) e
theorem zhW {lo hi mx : Option Opd} {t : Tr AVal} {h h2 : AHeap} {v : AVal} (e : xg lo hi mx t h = some (v, h2)) : h2 = h := by
 unfold xg at e;split at e <;> cases e; rfl
theorem zcw (x : Opd) : zY (opMv x) := by
 intro call t h v h2 e;unfold opMv at e
 (repeat' split at e) <;> first | (cases e; done) | (cases e; rfl) | exact zP e | exact yP e | exact zT e | exact yC (fun e => by first | (cases e; rfl) | exact zP e | exact zT e) (fun e => by cases e) e
theorem zhM (x y z : Opd) : zY (uy x y z) := by
 intro call t h v h2 e;unfold uy at e
 (repeat' split at e) <;> first | (cases e; done) | (cases e; rfl) | exact zP e | exact yP e | exact zT e | exact yC (fun e => by first | (cases e; rfl) | exact zP e | exact zT e) (fun e => by cases e) e
theorem zam (zs ps) : zY (wM zs ps) := by intro call t h v h2 e; exact yP e
theorem zhO (n x) : zY (uB n x) := by
 intro call t h v h2 e;unfold uB loadAt at e
 (repeat' split at e) <;> first | (cases e; done) | exact zT e | (unfold zd0 at e; split at e; exact zP e; exact yP e) | exact yC zP (fun e => by cases e) e
theorem ze8 (x) : zY (wH x) := by
 intro call t h v h2 e;unfold wH at e
 (repeat' split at e) <;> first | (cases e; done) | (cases e; rfl) | exact zP e | exact yP e | exact zT e | exact yC (fun e => by first | (cases e; rfl) | exact zP e | exact zT e) (fun e => by cases e) e
theorem ziZ (g x y) : zY (qR g x y) := by
 intro call t h v h2 e;unfold qR at e
 (repeat' split at e) <;> first | (cases e; done) | (cases e; rfl) | exact zP e | exact yP e | exact zT e | exact yC (fun e => by first | (cases e; rfl) | exact zP e | exact zT e) (fun e => by cases e) e
theorem zak (g x y) : zY (xS g x y) := by
 intro call t h v h2 e;unfold xS at e
 (repeat' split at e) <;> first | (cases e; done) | (cases e; rfl) | exact zP e | exact yP e | exact zT e | exact yC (fun e => by first | (cases e; rfl) | exact zP e | exact zT e) (fun e => by cases e) e
theorem ziU (g x y) : zY (zaF g x y) := by
 intro call t h v h2 e;unfold zaF at e
 (repeat' split at e) <;> first | (cases e; done) | (cases e; rfl) | exact zP e | exact yP e | exact zT e | exact yC (fun e => by first | (cases e; rfl) | exact zP e | exact zT e) (fun e => by cases e) e
theorem zgs (g n x y) : zY (opEq g n x y) := by
 intro call t h v h2 e;unfold opEq at e
 (repeat' split at e) <;> first | (cases e; done) | (cases e; rfl) | exact zP e | exact yP e | exact zT e | exact yC (fun e => by first | (cases e; rfl) | exact zP e | exact zT e) (fun e => by cases e) e
theorem zbH (n x y) : zY (vA n x y) := by
 intro call t h v h2 e;unfold vA at e
 (repeat' split at e) <;> first | (cases e; done) | (cases e; rfl) | exact zP e | exact yP e | exact zT e | exact yC (fun e => by first | (cases e; rfl) | exact zP e | exact zT e) (fun e => by cases e) e
theorem zbI (n x y) : zY (uz n x y) := by
 intro call t h v h2 e;unfold uz at e
 (repeat' split at e) <;> first | (cases e; done) | (cases e; rfl) | exact zP e | exact yP e | exact zT e | exact yC (fun e => by first | (cases e; rfl) | exact zP e | exact zT e) (fun e => by cases e) e
theorem ziW (x) : zY (zaG x) := by
 intro call t h v h2 e;unfold zaG at e
 (repeat' split at e) <;> first | (cases e; done) | (cases e; rfl) | exact zP e | exact yP e | exact zT e | exact yC (fun e => by first | (cases e; rfl) | exact zP e | exact zT e) (fun e => by cases e) e
theorem ziX (x) : zY (zaH x) := by
 intro call t h v h2 e;unfold zaH at e
 (repeat' split at e) <;> first | (cases e; done) | (cases e; rfl) | exact zP e | exact yP e | exact zT e | exact yC (fun e => by first | (cases e; rfl) | exact zP e | exact zT e) (fun e => by cases e) e
theorem zhT (k x) : zY (uF k x) := by
 intro call t h v h2 e;unfold uF at e
 (repeat' split at e) <;> first | (cases e; done) | (cases e; rfl) | exact zP e | exact yP e | exact zT e | exact yC (fun e => by first | (cases e; rfl) | exact zP e | exact zT e) (fun e => by cases e) e
theorem zqE {h h2 : AHeap} {c : Option (List CVal)} {v : AVal} (e : retS h c = some (v, h2)) : h2 = h := by
 unfold retS at e
 (repeat' split at e) <;> first | (cases e; done) | (cases e; rfl)
theorem zi1 (x) : zY (j8 x) := by
 intro call t h v h2 e;unfold j8 at e
 (repeat' split at e) <;> first | (cases e; done) | (cases e; rfl) | exact zqE e
theorem ziV (x) : zY (zcU x) := by
 intro call t h v h2 e;unfold zcU at e
 (repeat' split at e) <;> first | (cases e; done) | (cases e; rfl) | exact yC (fun e => by cases e; rfl) (fun e => by cases e) e
theorem ziT (u n x) : zY (zcT u n x) := by
 intro call t h v h2 e;unfold zcT at e;split at e
 ·cases e; rfl
 ·refine yC (fun e => ?_) (fun e => by cases e) e
  split at e
  ·exact yC (fun e => by cases e; rfl) (fun e => by cases e) e
  ·cases e
 ·cases e
theorem zal (n x y) : zY (wG n x y) := by
 intro call t h v h2 e;unfold wG at e
 (repeat' split at e) <;> first | (cases e; done) | (cases e; rfl)
theorem zdJ (l st x lo hi mx) : zY (wu l st x lo hi mx) := by
 intro call t h v h2 e;unfold wu at e;split at e
 ·exact zdO e
 ·cases e
theorem zhN (f x) : zY (uA f x) := by
 intro call t h v h2 e;unfold uA at e
 (repeat' split at e) <;> first | (cases e; done) | (cases e; rfl) | exact zP e | exact yP e | exact zT e | exact yC (fun e => by first | (cases e; rfl) | exact zP e | exact zT e) (fun e => by cases e) e
theorem ze7 (st x lo hi mx) : zY (wF st x lo hi mx) := by
 intro call t h v h2 e;unfold wF at e;split at e
 ·exact zhW e
 ·exact yC zdO zi3 e
 ·cases e
theorem zdI (x lo hi) : zY (xi x lo hi) := by
 intro call t h v h2 e;unfold xi at e
 (repeat' split at e) <;> first | (cases e; done) | (cases e; rfl) | exact zP e | exact yP e | exact zT e | exact yC (fun e => by first | (cases e; rfl) | exact zP e | exact zT e) (fun e => by cases e) e
theorem zhS (x o) : zY (uE x o) := by
 intro call t h v h2 e;unfold uE at e
 (repeat' split at e) <;> first | (cases e; done) | (cases e; rfl) | exact zP e | exact yP e | exact zT e | exact yC (fun e => by first | (cases e; rfl) | exact zP e | exact zT e) (fun e => by cases e) e
theorem zfc (x o n) : zY (wL x o n) := by
 intro call t h v h2 e;unfold wL at e
 (repeat' split at e) <;> first | (cases e; done) | (cases e; rfl) | exact zP e | exact yP e | exact zT e | exact yC (fun e => by first | (cases e; rfl) | exact zP e | exact zT e) (fun e => by cases e) e
theorem ziY (st x i) : zY (zaK st x i) := by
 intro call t h v h2 e;unfold zaK at e
 (repeat' split at e) <;> first | (cases e; done) | (cases e; rfl) | exact zP e | exact yP e | exact zT e | exact yC (fun e => by first | (cases e; rfl) | exact zP e | exact zT e) (fun e => by cases e) e
theorem zfa (l st x i) : zY (wJ l st x i) := by
 intro call t h v h2 e;unfold wJ at e
 (repeat' split at e) <;> first | (cases e; done) | (cases e; rfl) | exact zP e | exact yP e | exact zT e | exact yC (fun e => by first | (cases e; rfl) | exact zP e | exact zT e) (fun e => by cases e) e
theorem zfb (l st n x i) : zY (wK l st n x i) := by
 intro call t h v h2 e;unfold wK at e
 (repeat' split at e) <;> first | (cases e; done) | (cases e; rfl) | exact zP e | exact yP e | exact zT e | exact yC (fun e => by first | (cases e; rfl) | exact zP e | exact zT e) (fun e => by cases e) e
theorem ze9 (x i) : zY (wI x i) := by
 intro call t h v h2 e;unfold wI at e
 (repeat' split at e) <;> first | (cases e; done) | (cases e; rfl) | exact zP e | exact yP e | exact zT e | exact yC (fun e => by first | (cases e; rfl) | exact zP e | exact zT e) (fun e => by cases e) e
theorem zdL (q z ok m k) : zY (xW q z ok m k) := by
 intro call t h v h2 e;unfold xW at e;split at e
 ·refine yC (fun e => by cases e) (fun e => ?_) e
  split at e
  ·cases e; rfl
  ·cases e
 ·cases e
theorem zcx (x i) : zY (xb x i) := by
 intro call t h v h2 e;unfold xb at e
 (repeat' split at e) <;> first | (cases e; done) | (cases e; rfl) | exact zP e | exact yP e | exact zT e | exact yC (fun e => by first | (cases e; rfl) | exact zP e | exact zT e) (fun e => by cases e) e
theorem zhP (x) : zY (uC x) := by
 intro call t h v h2 e;unfold uC at e
 (repeat' split at e) <;> first | (cases e; done) | (cases e; rfl) | exact zP e | exact yP e | exact zT e | exact yC (fun e => by first | (cases e; rfl) | exact zP e | exact zT e) (fun e => by cases e) e
theorem zhR (x) : zY (uD x) := by
 intro call t h v h2 e;unfold uD at e
 (repeat' split at e) <;> first | (cases e; done) | (cases e; rfl) | exact zP e | exact yP e | exact zT e | exact yC (fun e => by first | (cases e; rfl) | exact zP e | exact zT e) (fun e => by cases e) e
theorem zhQ (x) : zY (jp x) := by
 intro call t h v h2 e;unfold jp at e
 (repeat' split at e) <;> first | (cases e; done) | (cases e; rfl) | exact zP e | exact yP e | exact zT e | exact yC (fun e => by first | (cases e; rfl) | exact zP e | exact zT e) (fun e => by cases e) e
theorem qv (b x xs) : zY (yT b x xs) := by
 intro call t h v h2 e;unfold yT at e
 (repeat' split at e) <;> first | (cases e; done) | (cases e; rfl) | exact zP e | exact yP e | exact zT e | exact yC (fun e => by first | (cases e; rfl) | exact zP e | exact zT e) (fun e => by cases e) e
theorem zi0 (P : Program) (o : Op) (hq : yq P o = true) : zY (cOp P o) := by
 cases o with
 | move x => exact zdK zcw
 | assign x => exact zdK zcw
 | pick c x y => exact zf fun _ => zf fun _ => zf fun _ => zr (zhM _ _ _)
 | build t parts =>
  unfold cOp;simp only;split
  ·exact yX (zf fun _ => zr (zam _ _)) zy
  ·split
   ·exact zf fun _ => zr (zam _ _)
   ·exact zy
  ·exact zy
 | load t x => exact zf fun _ => zf fun _ => zr (zhO _ _)
 | nilCheck x => exact zf fun _ => zr (ze8 _)
 | binOp op t x y u =>
  unfold cOp;simp only;split
  ·split
   ·exact zf fun _ => zf fun _ => zr (zak _ _ _)
   ·exact zf fun _ => zf fun _ => zr (zak _ _ _)
   ·exact zf fun _ => zf fun _ => zr (ziZ _ _ _)
  ·exact zf fun _ => zf fun _ => zr (ziU _ _ _)
  ·split
   ·exact zf fun _ => zf fun _ => zr (zbH _ _ _)
   ·exact zf fun _ => zf fun _ => zr (zbH _ _ _)
   ·exact zy
  ·refine yX ?_ zy;split
   ·exact zf fun _ => zf fun _ => zr (zal _ _ _)
   ·exact zf fun _ => zf fun _ => zr (zal _ _ _)
   ·exact zy
  ·split
   ·exact zf fun _ => zf fun _ => zr (zbI _ _ _)
   ·exact zf fun _ => zf fun _ => zr (zbI _ _ _)
   ·exact zy
  ·refine yX zy ?_;split
   ·exact zf fun _ => zf fun _ => zf fun _ => zr (zgs _ _ _ _)
   ·exact zf fun _ => zf fun _ => zf fun _ => zr (zgs _ _ _ _)
   ·exact zy
  ·exact zy
 | unOp u t x =>
  cases u with
  | not => exact zf fun _ => zr (ziW _)
  | neg => exact zf fun _ => zr (ziX _)
  | _ => exact zy
 | convert a b x =>
  unfold cOp;simp only;split
  ·exact zf fun _ => zr (zhT _ _)
  ·rename_i h1 h2;simp only [yq, zkv, zc5, h1, h2] at hq;cases hq
  ·exact yX (zf fun _ => zr (zi1 _)) zy
  ·exact yX (zf fun _ => zr (ziV _)) zy
  ·exact yX (zf fun _ => zr (ziT _ _ _)) zy
  ·exact zy
 | makeFunc f first captured =>
  cases f with
  | func f => exact yX (zf fun _ => zr (zhN _ _)) zy
  | _ => exact zy
 | slice t x lo hi mx =>
  unfold cOp;simp only;split
  ·split
   ·exact yX zy (zf fun _ => zf fun _ => zf fun _ => zf fun _ => zr (ze7 _ _ _ _ _))
   ·exact zy
  ·split
   ·exact yX zy (zf fun _ => zf fun _ => zf fun _ => zf fun _ => zr (zdJ _ _ _ _ _ _))
   ·exact zy
  ·exact yX zy (zf fun _ => zf fun _ => zf fun _ => zr (zdI _ _ _))
  ·exact zy
 | fieldAddr t x f =>
  unfold cOp;simp only;split
  ·split
   ·split
    ·exact yX zy (zf fun _ => zr (zhS _ _))
    ·exact zy
   ·exact zy
  ·exact zy
 | field t x f =>
  unfold cOp;simp only;split
  ·split
   ·exact zf fun _ => zf fun _ => zr (zfc _ _ _)
   ·exact zy
  ·exact zy
 | indexAddr t x i =>
  unfold cOp;simp only;split
  ·split
   ·exact zf fun _ => zf fun _ => zr (ziY _ _ _)
   ·exact zy
  ·split
   ·exact zf fun _ => zf fun _ => zr (zfa _ _ _ _)
   ·exact zy
  ·exact zy
 | index t x i =>
  unfold cOp;simp only;split
  ·split
   ·exact zf fun _ => zf fun _ => zf fun _ => zr (zfb _ _ _ _ _)
   ·exact zy
  ·exact zf fun _ => zf fun _ => zr (ze9 _ _)
  ·exact zy
 | lookup t m k ok =>
  unfold cOp;simp only;split
  ·exact zf fun _ => zf fun _ => zf fun _ => zf fun _ => zr (zdL _ _ _ _ _)
  ·exact zy
 | extract x i => exact zf fun _ => zr (zcx _ _)
 | call c =>
  obtain ⟨callee, args, ts⟩ := c;cases callee with
  | builtin b =>
   cases b with
   | len =>
    unfold cOp;simp only;split
    ·split
     ·exact zf fun _ => zr (zhP _)
     ·exact zf fun _ => zr (zhR _)
     ·exact zf fun _ => zr (zhQ _)
     ·exact zr (zcw _)
     ·exact zy
    ·exact zy
   | max =>
    unfold cOp;simp only;split
    ·exact zr (qv _ _ _)
    ·exact zy
   | min =>
    unfold cOp;simp only;split
    ·exact zr (qv _ _ _)
    ·exact zy
   | _ => cases hq
  | _ => cases hq
 | _ => cases hq
end Go.CE
end
section
namespace Go.CE
open Go.RowKit
theorem and2 {a b : Bool} (h : (a && b) = true) : a = true ∧ b = true := by simpa using h
theorem uR : ∀ {a b : BN}, eqBN a b = true → a = b
 | .z, .z, _ => rfl
 | .o a, .o b, h => by rw [uR (a := a) (b := b) h]
 | .d a, .d b, h => by rw [uR (a := a) (b := b) h]
 | .z, .o _, h => by cases h
 | .z, .d _, h => by cases h
 | .o _, .z, h => by cases h
 | .o _, .d _, h => by cases h
 | .d _, .z, h => by cases h
 | .d _, .o _, h => by cases h
theorem zkX {a b : Bool} (h : eqB a b = true) : a = b := by cases a <;> cases b <;> first | rfl | cases h
theorem zkT : ∀ {a b : List (BN × Nat)}, eqPs a b = true → a = b
 | [], [], _ => rfl
 | (b, o) :: l, (b', o') :: l', h => by
  obtain ⟨h1, h2⟩ := and2 h;obtain ⟨h3, h4⟩ := and2 h1;rw [uR h3, beq_true h4, zkT h2]
 | [], _ :: _, h => by cases h
 | _ :: _, [], h => by cases h
theorem znF : ∀ {a b : List UInt8}, eqU a b = true → a = b
 | [], [], _ => rfl
 | a :: l, b :: l', h => by
  obtain ⟨h1, h2⟩ := and2 h;rw [UInt8.toNat_inj.1 (beq_true h1), znF h2]
 | [], _ :: _, h => by cases h
 | _ :: _, [], h => by cases h
theorem zmU {a b : ByteArray} (h : eqU a.data.toList b.data.toList = true) : a = b := by
 have := znF h;cases a; cases b
 congr 1
 exact Array.ext' this
theorem eqII {a b : Int} (h : eqI a b = true) : a = b := by rw [uP] at h; simpa using h
theorem zkQ {a b : CVal} (h : eqV a b = true) : a = b := by
 cases a <;> cases b <;> first
  | rfl
  | (cases h; done)
  | skip
 ·exact congrArg _ (zkX h)
 ·obtain ⟨h1, h2⟩ := and2 h;rw [zfR h1, eqII h2]
 ·exact congrArg _ (zmU h)
 ·obtain ⟨h1, h2⟩ := and2 h;rw [uR h1, beq_true h2]
 ·obtain ⟨h1, h2⟩ := and2 h;obtain ⟨h1, h3⟩ := and2 h1;obtain ⟨h1, h4⟩ := and2 h1;obtain ⟨h1, h5⟩ := and2 h1;rw [uR h1, beq_true h5, beq_true h4, beq_true h3, zkX h2]
 ·exact congrArg _ (uR h)
 ·obtain ⟨h1, h2⟩ := and2 h;rw [beq_true h1, zkT h2]
 ·exact congrArg _ (uR h)
 ·obtain ⟨h1, h2⟩ := and2 h;rw [beq_true h1, beq_true h2]
theorem zfP : ∀ {a b : List CVal}, eqVs a b = true → a = b
 | [], [], _ => rfl
 | a :: l, b :: l', h => by
  obtain ⟨h1, h2⟩ := and2 h;rw [zkQ h1, zfP h2]
 | [], _ :: _, h => by cases h
 | _ :: _, [], h => by cases h
theorem zkR {a b : SVal} (h : eqSv a b = true) : a = b := by
 cases a <;> cases b <;> first
  | (cases h; done)
  | exact congrArg _ (zkQ h)
  | exact congrArg _ (zfP h)
theorem zkS : ∀ {a b : List SVal}, eqSs a b = true → a = b
 | [], [], _ => rfl
 | a :: l, b :: l', h => by
  obtain ⟨h1, h2⟩ := and2 h;rw [zkR h1, zkS h2]
 | [], _ :: _, h => by cases h
 | _ :: _, [], h => by cases h
theorem zhn {a b : AVal} (h : eqA a b = true) : a = b := by
 cases a <;> cases b <;> first
  | (cases h; done)
  | exact congrArg _ (zkR h)
  | exact congrArg _ (zkS h)
noncomputable def frL (L : Nat → Bool) : Nat → List (Option BN × AVal) → Tr AVal → Tr AVal
 | _, [], t => t
 | i, (d, v) :: r, t => frL L (i + 1) r (bif L i then setT t v d else t)
open Classical in
noncomputable def lw (L : Nat → Bool) (s : BN) : Nat → List (Option BN × AVal) → Option AVal
 | _, [] => none
 | i, (d, v) :: r => (lw L s (i + 1) r).or (if L i = true ∧ d = some s then some v else none)
theorem zcz (t : Tr AVal) (v : AVal) (d : Option BN) (s : BN) [Decidable (d = some s)] : (setT t v d).get s = if d = some s then some v else t.get s := by
 cases d with
 | none => simp [setT]
 | some d =>
  by_cases h : d = s
  ·subst h; simp [setT, zx]
  ·rw [if_neg (fun hh => h (Option.some.inj hh))]
   exact zn _ _ _ _ (fun hh => h hh.symm)
section
variable {L L' : Nat → Bool} {s : BN}
open Classical in
theorem uf : ∀ (r : List (Option BN × AVal)) (i : Nat) (t : Tr AVal), (frL L i r t).get s = (lw L s i r).or (t.get s)
 | [], i, t => rfl
 | (d, v) :: r, i, t => by
  unfold frL lw;rw [uf r (i + 1), Option.or_assoc]
  congr 1
  cases hL : L i with
  | false => simp
  | true =>
   simp only [cond_true, true_and];rw [zcz];split <;> simp
theorem ki : ∀ (r : List (Option BN × AVal)) (i : Nat), (∀ j d v, r[j]? = some (d, v) → d = some s → L (i + j) = L' (i + j)) → lw L s i r = lw L' s i r
 | [], i, _ => rfl
 | (d, v) :: r, i, h => by
  unfold lw;rw [ki r (i + 1) fun j d v hj hd => by have := h (j + 1) d v (by simpa using hj) hd; rwa [show i + (j + 1) = i + 1 + j by omega] at this]
  congr 1
  by_cases hd : d = some s
  ·have := h 0 d v (by simp) hd
   simp only [Nat.add_zero] at this;rw [this]
  ·simp [hd]
theorem zki : ∀ (r : List (Option BN × AVal)) (i : Nat), (∀ j d v, r[j]? = some (d, v) → d = some s → L (i + j) = false) → lw L s i r = none
 | [], i, _ => rfl
 | (d, v) :: r, i, h => by
  unfold lw;rw [zki r (i + 1) fun j d v hj hd => by have := h (j + 1) d v (by simpa using hj) hd; rwa [show i + (j + 1) = i + 1 + j by omega] at this]
  by_cases hd : d = some s
  ·have := h 0 d v (by simp) hd
   simp only [Nat.add_zero] at this;simp [this]
  ·simp [hd]
theorem zfA : ∀ (r : List (Option BN × AVal)) (i k : Nat) (v : AVal), r[k]? = some (some s, v) → L (i + k) = true → (∀ j d u, k < j → r[j]? = some (d, u) → d = some s → L (i + j) = false) → lw L s i r = some v
 | [], i, k, v, hk, _, _ => by simp at hk
 | (d, u) :: r, i, 0, v, hk, hL, h => by
  simp only [List.getElem?_cons_zero, Option.some.injEq, Prod.mk.injEq] at hk;obtain ⟨rfl, rfl⟩ := hk;unfold lw;rw [zki r (i + 1) fun j d v hj hd => by have := h (j + 1) d v (by omega) (by simpa using hj) hd; rwa [show i + (j + 1) = i + 1 + j by omega] at this]
  simp only [Nat.add_zero] at hL;simp [hL]
 | (d, u) :: r, i, k + 1, v, hk, hL, h => by
  unfold lw;rw [zfA r (i + 1) k v (by simpa using hk) (by rwa [show i + 1 + k = i + (k + 1) by omega]) fun j d v hj hjr hd => by
   have := h (j + 1) d v (by omega) (by simpa using hjr) hd; rwa [show i + (j + 1) = i + 1 + j by omega] at this]
  rfl
theorem zhe (d : Option BN) (v : AVal) (r : List (Option BN × AVal)) (i : Nat) (t : Tr AVal) : frL L i ((d, v) :: r) t = frL L (i + 1) r (bif L i then setT t v d else t) := rfl
theorem zk5 (e : Bool) (es : List Bool) (i : Nat) : ce L i (e :: es) = bif L i && e then ce L (i + 1) es + 1 else ce L (i + 1) es := rfl
theorem za5 : ∀ (r : List (Option BN × AVal)) (i : Nat) (t : Tr AVal), frL L (i + 1) r t = frL (fun k => L (k + 1)) i r t
 | [], i, t => rfl
 | (d, v) :: r, i, t => by unfold frL; exact za5 r (i + 1) _
theorem kC : ∀ (r : List (Option BN × AVal)) (i : Nat) (t : Tr AVal), (∀ j, j < r.length → L (i + j) = L' (i + j)) → frL L i r t = frL L' i r t
 | [], i, t, _ => rfl
 | (d, v) :: r, i, t, h => by
  unfold frL;have h0 := h 0 (by simp)
  simp only [Nat.add_zero] at h0;rw [h0];exact kC r (i + 1) _ fun j hj => by have := h (j + 1) (by simpa using hj); rwa [show i + (j + 1) = i + 1 + j by omega] at this
theorem zdv : ∀ (es : List Bool) (i : Nat), ce L (i + 1) es = ce (fun k => L (k + 1)) i es
 | [], i => rfl
 | e :: es, i => by
  unfold ce;rw [Nat.succ_eq_add_one, Nat.succ_eq_add_one, zdv es (i + 1)]
theorem xZ : ∀ (es : List Bool) (i : Nat), (∀ j, es[j]? = some true → L (i + j) = L' (i + j)) → ce L i es = ce L' i es
 | [], i, _ => rfl
 | e :: es, i, h => by
  unfold ce;have ih := xZ es (i + 1) fun j hj => by have := h (j + 1) (by simpa using hj); rwa [show i + (j + 1) = i + 1 + j by omega] at this
  rw [Nat.succ_eq_add_one, ih];cases e with
  | false => simp
  | true =>
   have h0 := h 0 (by simp)
   simp only [Nat.add_zero] at h0;rw [h0]
theorem xD : ∀ (es : List Bool) (i : Nat), (∀ j, es[j]? = some true → L (i + j) = true → L' (i + j) = true) → ce L i es ≤ ce L' i es
 | [], i, _ => LzB _
 | e :: es, i, h => by
  unfold ce;have ih := xD es (i + 1) fun j hj hL => by have := h (j + 1) (by simpa using hj) (by rwa [show i + (j + 1) = i + 1 + j by omega]); rwa [show i + (j + 1) = i + 1 + j by omega] at this
  simp only [Nat.succ_eq_add_one];cases e with
  | false => simpa using ih
  | true =>
   have h0 := h 0 (by simp)
   simp only [Nat.add_zero] at h0;cases hL : L i with
   | false => cases L' i <;> simp <;> omega
   | true => rw [h0 hL]; simp; omega
theorem zeL : ∀ (es : List Bool) (i k : Nat), es[k]? = some true → L (i + k) = false → L' (i + k) = true → (∀ j, j ≠ i + k → L' j = L j) → ce L' i es = ce L i es + 1
 | [], i, k, hk, _, _, _ => by simp at hk
 | e :: es, i, 0, hk, h1, h2, h3 => by
  simp only [List.getElem?_cons_zero, Option.some.injEq] at hk;subst hk;simp only [Nat.add_zero] at h1 h2 h3;unfold ce;rw [h1, h2];simp only [Nat.succ_eq_add_one, Bool.and_true, cond_true, cond_false];rw [xZ (L := L') (L' := L) es (i + 1) fun j _ => h3 _ (by omega)]
 | e :: es, i, k + 1, hk, h1, h2, h3 => by
  unfold ce;have ih := zeL es (i + 1) k (by simpa using hk) (by rwa [show i + 1 + k = i + (k + 1) by omega]) (by rwa [show i + 1 + k = i + (k + 1) by omega]) fun j hj => h3 j (by omega)
  simp only [Nat.succ_eq_add_one];rw [ih, h3 i (by omega)]
  cases (L i && e) <;> simp
end
theorem wC (t : Tr AVal) (s : BN) [DecidableEq BN] : ∀ (l : List BN), (vW t l).get s = if s ∈ l then t.get s else none
 | [] => by cases s <;> rfl
 | x :: l => by
  unfold vW;split
  ·rename_i v hv;by_cases hx : s = x
   ·subst hx; rw [zx, hv]; simp
   ·rw [zn _ _ _ _ hx, wC t s l];simp [hx]
  ·rename_i hv;rw [wC t s l];by_cases hx : s = x
   ·subst hx; simp [hv]
   ·simp [hx]
def dv (x : DOper × Tr AVal × AVal) : Option BN × AVal := (x.1.rop.dst, x.2.2)
theorem zdh (call : zh) : ∀ (ds : List DOper) (t : Tr AVal) (h : AHeap) (l : List (DOper × Tr AVal × AVal)) (t2 : Tr AVal) (hs : List AHeap), evD call ds t h = some (l, t2, hs) →
  l.map (·.1) = ds ∧ hs[0]? = some h ∧ hs.length = ce (fun _ => true) 0 (ds.map (·.eff)) + 1 ∧ t2 = frL (fun _ => true) 0 (l.map dv) t ∧
  ∀ j d tr v, l[j]? = some (d, tr, v) → tr = vW (frL (fun k => decide (k < j)) 0 (l.map dv) t) d.looks ∧
   ∃ hk h', hs[ce (fun k => decide (k < j)) 0 (ds.map (·.eff))]? = some hk ∧ y9 call d.rop tr hk = some (v, h') ∧ (d.eff = true → hs[ce (fun k => decide (k < j)) 0 (ds.map (·.eff)) + 1]? = some h')
 | [], t, h, l, t2, hs, e => by
  cases e;exact ⟨rfl, rfl, rfl, rfl, fun j d tr v hj => by simp at hj⟩
 | d :: ds, t, h, l, t2, hs, e => by
  unfold evD at e;split at e
  ·rename_i v0 h0 hv0;cases hr : evD call ds (setT t v0 d.rop.dst) (bif d.eff then h0 else h) with
   | none => rw [hr] at e; cases e
   | some p =>
    obtain ⟨l', t', hs'⟩ := p;rw [hr] at e;simp only [zru, Option.some.injEq, Prod.mk.injEq] at e;obtain ⟨rfl, rfl, rfl⟩ := e;obtain ⟨g1, g2, g3, g4, g5⟩ := zdh call ds _ _ l' _ hs' hr;have hsh : ∀ (L : Nat → Bool), ce L 0 ((d :: ds).map (·.eff)) = (bif L 0 && d.eff then 1 else 0) + ce (fun k => L (k + 1)) 0 (ds.map (·.eff)) := by
     intro L;simp only [List.map_cons];rw [zk5, zdv];cases (L 0 && d.eff) <;> simp <;> omega
    have hfr : ∀ (L : Nat → Bool), frL L 0 (((d, vW t d.looks, v0) :: l').map dv) t = frL (fun k => L (k + 1)) 0 (l'.map dv) (bif L 0 then setT t v0 d.rop.dst else t) := by
     intro L;simp only [List.map_cons];show frL L 0 ((d.rop.dst, v0) :: l'.map dv) t = _;rw [zhe, za5]
    refine ⟨by simp [g1], ?_, ?_, ?_, ?_⟩
    ·cases hd : d.eff with
     | true => rfl
     | false => rw [hd] at g2; exact g2
    ·rw [hsh];cases hd : d.eff with
     | true => simp only [cond_true, List.length_cons, Bool.and_self]; omega
     | false => simp only [cond_false, Bool.and_false]; omega
    ·rw [hfr, g4]; rfl
    ·intro j dj tr v hj;cases j with
     | zero =>
      simp only [List.getElem?_cons_zero, Option.some.injEq, Prod.mk.injEq] at hj;obtain ⟨rfl, rfl, rfl⟩ := hj;have hz : ce (fun k => decide (k < 0)) 0 ((d :: ds).map (·.eff)) = 0 := by
       rw [hsh];simp only [Nat.not_lt_zero, decide_false, Bool.false_and, cond_false, Nat.zero_add];have : ∀ (es : List Bool) (i : Nat), ce (fun _ => false) i es = 0 := by
        intro es
        induction es with
        | nil => intro i; rfl
        | cons e es ih => intro i; unfold ce; simp [ih]
       exact this _ _
      refine ⟨?_, h, h0, ?_, hv0, ?_⟩
      ·rw [hfr];simp only [Nat.not_lt_zero, decide_false, cond_false]
       congr 1
       have : ∀ (r : List (Option BN × AVal)) (i : Nat) (t : Tr AVal), frL (fun _ => false) i r t = t := by
        intro r
        induction r with
        | nil => intro i t; rfl
        | cons p r ih => intro i t; obtain ⟨d, v⟩ := p; unfold frL; exact ih _ _
       exact (this _ _ _).symm
      ·rw [hz];cases hd : d.eff with
       | true => rfl
       | false => rw [hd] at g2; exact g2
      ·intro hd;rw [hz];rw [hd] at g2 ⊢;exact g2
     | succ j =>
      simp only [List.getElem?_cons_succ] at hj;obtain ⟨k1, hk, h', k2, k3, k4⟩ := g5 j dj tr v hj;have hc : ce (fun k => decide (k < j + 1)) 0 ((d :: ds).map (·.eff)) = (bif d.eff then 1 else 0) + ce (fun k => decide (k < j)) 0 (ds.map (·.eff)) := by
       rw [hsh];simp
      refine ⟨?_, hk, h', ?_, k3, ?_⟩
      ·rw [hfr, k1];simp
      ·rw [hc];cases hd : d.eff with
       | true => simp only [cond_true]; rw [Nat.add_comm 1, List.getElem?_cons_succ]; exact k2
       | false => simp only [cond_false, Nat.zero_add]; exact k2
      ·intro hdj;rw [hc];cases hd : d.eff with
       | true => simp only [cond_true]; rw [Nat.add_comm 1, List.getElem?_cons_succ]; exact k4 hdj
       | false => simp only [cond_false, Nat.zero_add]; exact k4 hdj
  ·cases e
theorem zaq {call : zh} {o : ROper} {tr : Tr AVal} {v : AVal} : ∀ (hs : List AHeap), sameAt call o tr v hs = true → ∀ (k : Nat) (hk : AHeap), hs[k]? = some hk → ∃ h', y9 call o tr hk = some (v, h')
 | [], _, k, hk, hh => by simp at hh
 | h :: hs, e, k, hk, hh => by
  unfold sameAt at e;split at e
  ·rename_i v' h' hv;obtain ⟨e1, e2⟩ := and2 e;cases k with
   | zero =>
    simp only [List.getElem?_cons_zero, Option.some.injEq] at hh;subst hh;exact ⟨h', by rw [hv, zhn e1]⟩
   | succ k => exact zaq hs e2 k hk (by simpa using hh)
  ·cases e
theorem zbg {call : zh} {hs : List AHeap} : ∀ (l : List (DOper × Tr AVal × AVal)), wZ call hs l = true → ∀ (j : Nat) (d : DOper) (tr : Tr AVal) (v : AVal), l[j]? = some (d, tr, v) → d.eff = false →
  d.lo = d.hi ∨ ∀ k hk, d.lo ≤ k → k ≤ d.hi → hs[k]? = some hk → ∃ h', y9 call d.rop tr hk = some (v, h')
 | [], _, j, d, tr, v, hj, _ => by simp at hj
 | (d0, tr0, v0) :: l, e, j, d, tr, v, hj, hd => by
  obtain ⟨e1, e2⟩ := and2 e;cases j with
  | zero =>
   simp only [List.getElem?_cons_zero, Option.some.injEq, Prod.mk.injEq] at hj;obtain ⟨rfl, rfl, rfl⟩ := hj;rw [hd] at e1;simp only [Bool.false_or, Bool.or_eq_true] at e1;rcases e1 with e1 | e1
   ·exact .inl (beq_true e1)
   ·refine .inr fun k hk h1 h2 h3 => ?_
    refine zaq _ e1 (k - d0.lo) hk ?_;rw [List.getElem?_take_of_lt (by show k - d0.lo < Nat.sub (Nat.succ d0.hi) d0.lo; have : Nat.sub (Nat.succ d0.hi) d0.lo = d0.hi + 1 - d0.lo := rfl; omega), List.getElem?_drop]
    rw [show d0.lo + (k - d0.lo) = k by omega]
    exact h3
  | succ j => exact zbg l e2 j d tr v (by simpa using hj) hd
theorem zc1 : ∀ (hs : List AHeap) (h : AHeap), hs ≠ [] → hs[hs.length - 1]? = some (zbz h hs)
 | [], _, h => absurd rfl h
 | [x], _, _ => rfl
 | x :: y :: hs, h, _ => by
  have := zc1 (y :: hs) x (by simp)
  simpa [zbz] using this
theorem zbi (P : Program) (nt : Nat) (ops : Array Oper) (bs : List Nat) (es : List Bool) : ∀ (os : List Oper) (i j : Nat), (vt P nt ops bs es i os)[j]? = (os[j]?).map fun o =>
  (⟨yF P nt ops o, (o.looksAt ops).map bn, !yq P o.op, ce (fun k => bef bs k (i + j)) 0 es, ce (fun k => !bef bs (i + j) k) 0 es⟩ : DOper)
 | [], i, j => by simp [vt]
 | o :: os, i, 0 => by simp [vt]
 | o :: os, i, j + 1 => by
  simp only [vt, List.getElem?_cons_succ];rw [zbi P nt ops bs es os (Nat.succ i) j, show Nat.succ i + j = i + (j + 1) by omega]
theorem zbj (P : Program) (nt : Nat) (ops : Array Oper) (bs : List Nat) (es : List Bool) : ∀ (os : List Oper) (i : Nat), (vt P nt ops bs es i os).map (·.eff) = effs P os
 | [], i => rfl
 | o :: os, i => by
  have := zbj P nt ops bs es os (Nat.succ i);simp only [vt, List.map_cons, this];rfl
theorem wP {p : Nat → Oper → Bool} : ∀ (os : List Oper) (i : Nat), allI p i os = true → ∀ (j : Nat) (o : Oper), os[j]? = some o → p (i + j) o = true
 | [], _, _, j, o, hj => by simp at hj
 | o :: os, i, e, 0, o', hj => by
  simp only [List.getElem?_cons_zero, Option.some.injEq] at hj;subst hj;exact (and2 e).1
 | o :: os, i, e, j + 1, o', hj => by
  have := wP os (Nat.succ i) (and2 e).2 j o' (by simpa using hj)
  rwa [show Nat.succ i + j = i + (j + 1) by omega] at this
section
variable {ops : Array Oper}
def Rdy (ops : Array Oper) (L : Nat → Bool) (i : Nat) : Prop := ∀ o e, ops[i]? = some o → e ∈ o.after.toList → Region.binds .any e = true → L e.on = true
def Clo (ops : Array Oper) (L : Nat → Bool) : Prop := ∀ i, L i = true → Rdy ops L i
def zp3 (ops : Array Oper) (acc : List Nat) : Prop := ∀ (i x : Nat), acc[i]? = some x → ∀ (j : Nat), Nat.testBit x j = true → ∀ (L : Nat → Bool), Clo ops L → Rdy ops L i → L j = true
theorem qn {acc : List Nat} {j : Nat} : ∀ (es : List Edge), Nat.testBit (zgc acc es) j = true → ∃ e ∈ es, Region.binds .any e = true ∧ (e.on = j ∨ ∃ x, acc[e.on]? = some x ∧ Nat.testBit x j = true)
 | [], h => by simp [zgc] at h
 | e :: es, h => by
  unfold zgc at h;cases hb : Region.binds .any e with
  | false =>
   rw [hb] at h;obtain ⟨e', h1, h2⟩ := qn es h;exact ⟨e', by simp [h1], h2⟩
  | true =>
   rw [hb] at h;simp only [cond_true] at h;have h : Nat.testBit ((2 ^ e.on ||| (acc[e.on]?).getD 0) ||| zgc acc es) j = true := h
   rw [Nat.testBit_or, Nat.testBit_or, Bool.or_eq_true, Bool.or_eq_true] at h;rcases h with (h | h) | h
   ·rw [Nat.testBit_two_pow] at h;exact ⟨e, by simp, hb, .inl (by simpa using h)⟩
   ·cases hx : acc[e.on]? with
    | none => rw [hx] at h; simp at h
    | some x => rw [hx] at h; exact ⟨e, by simp, hb, .inr ⟨x, hx, h⟩⟩
   ·obtain ⟨e', h1, h2⟩ := qn es h;exact ⟨e', by simp [h1], h2⟩
theorem zbn : ∀ (os pre : List Oper) (acc : List Nat), ops.toList = pre ++ os → acc.length = pre.length → zp3 ops acc → zp3 ops (zhC os acc)
 | [], _, acc, _, _, hg => hg
 | o :: os, pre, acc, hp, hl, hg => by
  unfold zhC;refine zbn os (pre ++ [o]) _ (by simp [hp]) (by simp [hl]) ?_
  intro i x hi j hj L hC hR;by_cases hlt : i < acc.length
  ·rw [Lz2 hlt] at hi;exact hg i x hi j hj L hC hR
  ·rw [Lz8 (by omega)] at hi
   have h0 : i - acc.length = 0 := by
    apply Decidable.byContradiction;intro hne;rw [List.getElem?_eq_none (by simp; omega)] at hi
    cases hi
   rw [h0] at hi;simp only [List.getElem?_cons_zero, Option.some.injEq] at hi;subst hi;obtain ⟨e, he, hb, hh⟩ := qn _ hj;have ho : ops[i]? = some o := by
    rw [← LzA, hp, Lz8 (by omega)]
    rw [show i - pre.length = 0 by omega]
    rfl
   have hon := hR o e ho he hb;rcases hh with hh | ⟨x, hx, hh⟩
   ·rw [← hh]; exact hon
   ·exact hg _ x hx j hh L hC (hC _ hon)
theorem xO {i j : Nat} (h : bef (befs ops.toList) j i = true) {L : Nat → Bool} (hC : Clo ops L) (hR : Rdy ops L i) : L j = true := by
 have hg : zp3 ops (befs ops.toList) := zbn ops.toList [] [] rfl rfl (fun i x hi => by simp at hi)
 unfold bef at h;cases hx : (befs ops.toList)[i]? with
 | none => rw [hx] at h; simp at h
 | some x => rw [hx] at h; exact hg i x hx j h L hC hR
def lst (listed : Array Bool) (i : Nat) : Bool := listed.getD i false
theorem mem_ready {listed : Array Bool} {i : Nat} (h : i ∈ Region.ready .any ops listed) : ∃ o, ops[i]? = some o ∧ i < listed.size ∧ lst listed i = false ∧ Rdy ops (lst listed) i := by
 unfold Region.ready at h;rw [List.mem_filter] at h;obtain ⟨h1, h2⟩ := h;obtain ⟨h3, h4⟩ := and2 h2;have hlt : i < listed.size := by
  apply Decidable.byContradiction;intro hn;rw [Array.getD_eq_getD_getElem?, Array.getElem?_eq_none (by omega)] at h3
  simp at h3
 cases ho : ops[i]? with
 | none => rw [ho] at h4; simp at h4
 | some o =>
  rw [ho] at h4;refine ⟨o, rfl, hlt, ?_, ?_⟩
  ·unfold lst;rw [Array.getD_eq_getD_getElem?, Array.getElem?_eq_getElem hlt] at h3 ⊢
   simpa using h3
  ·intro o' e ho' he hb;cases ho.symm.trans ho';simp only [Option.map_some, Option.getD_some, Array.all_eq_true'] at h4;have := h4 e (by simpa using he)
   rw [hb] at this
   simpa [lst] using this
theorem zjl {listed : Array Bool} (hsz : listed.size = ops.size) {i : Nat} {o : Oper} (ho : ops[i]? = some o) (hl : lst listed i = false) (hR : Rdy ops (lst listed) i) : i ∈ Region.ready .any ops listed := by
 have hi : i < ops.size := (Lz7.1 ho).1;unfold Region.ready;rw [List.mem_filter];refine ⟨by simpa using hi, ?_⟩
 rw [LzC]
 constructor
 ·unfold lst at hl;rw [Array.getD_eq_getD_getElem?, Array.getElem?_eq_getElem (by omega)] at hl ⊢
  simpa using hl
 ·rw [ho];simp only [Option.map_some, Option.getD_some, Array.all_eq_true'];intro e he;cases hb : Region.binds .any e with
  | false => rfl
  | true => simpa [lst] using hR o e ho (by simpa using he) hb
theorem zco {listed : Array Bool} (hsz : listed.size = ops.size) (hA : ∀ (i : Nat) (o : Oper) (e : Edge), ops[i]? = some o → e ∈ o.after.toList → Region.binds .any e = true → e.on < i)
  (hnil : Region.ready .any ops listed = []) : ∀ i, i < ops.size → lst listed i = true := by
 intro i
 induction i using Nat.strongRecOn with
 | _ i ih =>
  intro hi;cases hl : lst listed i with
  | true => rfl
  | false =>
   have := zjl (ops := ops) hsz (Array.getElem?_eq_getElem hi) hl (fun o e ho he hb => by
    have h1 := hA i o e ho he hb;exact ih _ h1 (by omega))
   rw [hnil] at this;cases this
theorem wh {listed : Array Bool} {i : Nat} (hi : i < listed.size) (j : Nat) : lst (listed.setIfInBounds i true) j = (decide (j = i) || lst listed j) := by
 unfold lst;rw [Array.getD_eq_getD_getElem?, Array.getD_eq_getD_getElem?, Array.getElem?_setIfInBounds];by_cases h : i = j
 ·subst h; simp [hi]
 ·rw [if_neg h];have : ¬ j = i := fun e => h e.symm
  simp [this]
def unl (listed : Array Bool) : Nat := listed.toList.count false
theorem ziQ {listed : Array Bool} {i : Nat} (hi : i < listed.size) (hl : lst listed i = false) : unl (listed.setIfInBounds i true) + 1 = unl listed := by
 unfold unl;rw [Array.toList_setIfInBounds, List.count_set (by simpa using hi)]
 have hg : listed.toList[i]'(by simpa using hi) = false := by
  unfold lst at hl;rw [Array.getD_eq_getD_getElem?, Array.getElem?_eq_getElem hi] at hl
  simpa using hl
 have hpos : 0 < listed.toList.count false := List.count_pos_iff.2 (by rw [← hg]; exact List.getElem_mem _)
 rw [hg];simp only [beq_self_eq_true, if_true];have : (true == false) = false := rfl;rw [this];simp only [Bool.false_eq_true, if_false];omega
theorem zgq {listed : Array Bool} (h : unl listed = 0) {i : Nat} (hi : i < listed.size) : lst listed i = true := by
 unfold unl at h;rw [List.count_eq_zero] at h;unfold lst;rw [Array.getD_eq_getD_getElem?, Array.getElem?_eq_getElem hi];simp only [Option.getD_some];cases hb : listed[i] with
 | true => rfl
 | false => exact absurd (by rw [← hb]; simp) h
end
end Go.CE
end
section
namespace Go.CE
open Go.RowKit
section
variable {P : Program} {w0 : World} {S : Nat → Prop} {nt : Nat} {call : zh} {ops : Array Oper}
theorem TRel.of_get {φ : Phi} {n : Nat} {t t' : Tr AVal} {arr : Array Value} (T : TRel φ nt n t arr) (h : ∀ s, t'.get s = t.get s) : TRel φ nt n t' arr :=
 ⟨T.size, fun i hi => by rw [h]; exact T.get i hi, fun i hi => by rw [h]; exact T.out i hi, fun i v hv => T.wf i v (by rw [← h]; exact hv)⟩
noncomputable def wj (φ : Phi) (nt : Nat) (t : Tr AVal) : Array Value := Array.ofFn (n := nt) fun i => zo φ ((t.get (bn i.val)).getD zX)
theorem zeH {φ : Phi} {n : Nat} {t : Tr AVal} (h1 : ∀ i, nt ≤ i → t.get (bn i) = none) (h2 : ∀ i v, t.get i = some v → wfA φ n v) : TRel φ nt n t (wj φ nt t) :=
 ⟨by simp [wj], fun i hi => by simp [wj, hi], h1, h2⟩
theorem zeA {φ : Phi} {t : Tr AVal} {h h2 : AHeap} {a : Act} {v : AVal} {o : Oper} (e : y9 call (yF P nt ops o) t h = some (v, h2)) (T : TRel φ nt h.n.toNat t a.tmps) :
  (Region.wanted o (yielded ops a.tmps) = true ∧ cOp P o.op call t h = some (v, h2)) ∨ (Region.wanted o (yielded ops a.tmps) = false ∧ v = zX ∧ h2 = h) := by
 unfold yF at e;have bad : ∀ {o' : ROper}, o' = ⟨none, yN, none⟩ → y9 call o' t h = some (v, h2) → False := by
  intro o' ho' e; subst ho'; cases e
 cases hd : inT nt o.dst with
 | false => rw [hd] at e; exact (bad rfl e).elim
 | true =>
  rw [hd] at e;simp only [cond_true] at e;have fin : ∀ g, y9 call ⟨o.dst.map bn, cOp P o.op, g⟩ t h = some (v, h2) → (want t g = true ∧ cOp P o.op call t h = some (v, h2)) ∨ (want t g = false ∧ v = zX ∧ h2 = h) := by
   intro g e;unfold y9 at e;simp only at e;cases hw : want t g with
   | false => rw [hw] at e; cases e; exact .inr ⟨rfl, rfl, rfl⟩
   | true => rw [hw] at e; exact .inl ⟨rfl, e⟩
  split at e
  ·rename_i hg;rcases fin none e with hh | ⟨hw, _⟩
   ·exact .inl ⟨by simp [Region.wanted, hg], hh.2⟩
   ·cases hw
  ·rename_i j b hg;split at e
   ·rename_i d hjd;cases hb : Nat.ble (Nat.succ d) nt with
    | false => rw [hb] at e; exact (bad rfl e).elim
    | true =>
     rw [hb] at e;have hyd := kQ T hjd (zQ hb) b;rcases fin (some (bn d, b)) e with ⟨hw, hh⟩ | ⟨hw, hh⟩
     ·exact .inl ⟨by simp only [Region.wanted, hg]; rw [hyd]; exact hw, hh⟩
     ·exact .inr ⟨by simp only [Region.wanted, hg]; rw [hyd]; exact hw, hh⟩
   ·exact (bad rfl e).elim
theorem kH {t : Tr AVal} {h : AHeap} {r : AVal × AHeap} {o : Oper} (e : y9 call (yF P nt ops o) t h = some r) : (yF P nt ops o).dst = o.dst.map bn ∧ inT nt o.dst = true := by
 have bad : ∀ {o' : ROper}, o' = ⟨none, yN, none⟩ → y9 call o' t h = some r → False := by
  intro o' ho' e; subst ho'; cases e
 unfold yF at e ⊢;cases hd : inT nt o.dst with
 | false => rw [hd] at e; exact (bad rfl e).elim
 | true =>
  rw [hd] at e;simp only [cond_true] at e ⊢;cases hg : o.guard with
  | none => exact ⟨rfl, trivial⟩
  | some gb =>
   obtain ⟨j, b⟩ := gb;rw [hg] at e;simp only at e ⊢;cases hj : (ops[j]?).bind (·.dst) with
   | none => rw [hj] at e; exact (bad rfl e).elim
   | some d =>
    rw [hj] at e;simp only at e ⊢;cases hb : Nat.ble (Nat.succ d) nt with
    | false => rw [hb] at e; exact (bad rfl e).elim
    | true => exact ⟨rfl, trivial⟩
theorem zfY (hok : kJ P ops (befs ops.toList) = true) : (∀ (i : Nat) (o : Oper), ops[i]? = some o → (∀ cs b, o.op ≠ .select cs b) ∧ ∀ e ∈ o.after.toList, Region.binds .any e = true → e.on < i) ∧
  ∀ (i j : Nat) (oi oj : Oper), ops[i]? = some oi → ops[j]? = some oj → i < j → bef (befs ops.toList) i j = true ∨ (oi.apart ops oj = true ∧ (yq P oi.op = true ∨ yq P oj.op = true)) := by
 obtain ⟨h1, h2⟩ := and2 hok
 constructor
 ·intro i o ho;have := wP _ 0 h1 i o (by rw [LzA]; exact ho)
  rw [Nat.zero_add] at this;obtain ⟨g1, g2⟩ := and2 this;refine ⟨(fun cs b hh => by rw [hh] at g1; cases g1), fun e he hb => ?_⟩
  rw [List.all_eq_true] at g2;have := g2 e he;rw [hb] at this;exact zQ (by simpa using this)
 ·intro i j oi oj hi hj hlt;have := wP _ 0 h2 j oj (by rw [LzA]; exact hj)
  rw [Nat.zero_add] at this;have := wP _ 0 this i oi (by rw [LzA]; exact hi)
  rw [Nat.zero_add] at this;simp only [Bool.or_eq_true] at this;rcases this with (this | this) | this
  ·have hle : Nat.ble (Nat.succ i) j = true := Nat.ble_eq_true_of_le hlt;rw [hle] at this;cases this
  ·exact .inl this
  ·obtain ⟨k1, k2⟩ := and2 this;exact .inr ⟨k1, by simpa using k2⟩
theorem zkZ (C : xq P call) {Q : Exit → Act → World → Prop} {a0 : Act} {t t2 : Tr AVal} {h : AHeap} {φ0 : Phi} {l : List (DOper × Tr AVal × AVal)} {hs : List AHeap} {ro : Option Nat}
  (hok : kJ P ops (befs ops.toList) = true) (hev : evD call (qM P nt ops) t h = some (l, t2, hs)) (hch : wZ call hs l = true)
  (hQ : ∀ a2 w2, Next1 w0 S φ0 nt h t2 (zbz h hs) a0 a2 w2 → Q .normal a2 w2) :
  ∀ (fuel : Nat) (listed : Array Bool) (φ : Phi) (a : Act) (w : World) (Hk : AHeap), listed.size = ops.size → unl listed ≤ fuel → Clo ops (lst listed) → Ext h.n.toNat φ0 φ →
   hs[ce (lst listed) 0 (effs P ops.toList)]? = some Hk → HRel w0 S φ Hk w → h.n.toNat ≤ Hk.n.toNat → TRel φ nt Hk.n.toNat (frL (lst listed) 0 (l.map dv) t) a.tmps → a.defers = a0.defers →
   wpAnyIn (FR ro) 0 P .any ops Q fuel listed a w := by
 obtain ⟨hA, hord⟩ := zfY hok;obtain ⟨g1, g2, g3, g4, g5⟩ := zdh call _ _ _ _ _ _ hev;have heff : (qM P nt ops).map (·.eff) = effs P ops.toList := zbj _ _ _ _ _ _ _;rw [heff] at g3 g5;have hl : ∀ (j : Nat) (o : Oper), ops[j]? = some o → ∃ tr v, l[j]? = some ((⟨yF P nt ops o, (o.looksAt ops).map bn, !yq P o.op, ce (fun k => bef (befs ops.toList) k j) 0 (effs P ops.toList), ce (fun k => !bef (befs ops.toList) j k) 0 (effs P ops.toList)⟩ : DOper), tr, v) := by
  intro j o ho;have h1 : (qM P nt ops)[j]? = some ⟨yF P nt ops o, (o.looksAt ops).map bn, !yq P o.op, ce (fun k => bef (befs ops.toList) k j) 0 (effs P ops.toList), ce (fun k => !bef (befs ops.toList) j k) 0 (effs P ops.toList)⟩ := by
   unfold qM;rw [zbi, LzA, ho, Nat.zero_add];rfl
  rw [← g1, Lz6] at h1;cases hx : l[j]? with
  | none => rw [hx] at h1; cases h1
  | some x =>
   obtain ⟨d, tr, v⟩ := x;rw [hx] at h1;simp only [Option.map_some, Option.some.injEq] at h1;exact ⟨tr, v, by rw [← h1]⟩
 have hlen : l.length = ops.size := by
  have h1 := congrArg List.length g1;have h2 := congrArg List.length heff;simp only [List.length_map, effs, Array.length_toList] at h1 h2;omega
 have hdst : ∀ (j : Nat) (o : Oper) (d : DOper) (tr : Tr AVal) (v : AVal), ops[j]? = some o → l[j]? = some (d, tr, v) → d.rop.dst = o.dst.map bn ∧ inT nt o.dst = true := by
  intro j o d tr v ho hj;obtain ⟨tr', v', hj'⟩ := hl j o ho;cases hj.symm.trans hj';obtain ⟨_, hk, h', _, hone, _⟩ := g5 j _ tr v hj;exact kH hone
 have hdv : ∀ (j : Nat) (d : Option BN) (v : AVal) (s : BN), (l.map dv)[j]? = some (d, v) → d = some s → ∃ o sn, ops[j]? = some o ∧ o.dst = some sn ∧ bn sn = s := by
  intro j d v s hj hd;rw [Lz6] at hj;cases hx : l[j]? with
  | none => rw [hx] at hj; cases hj
  | some x =>
   obtain ⟨d', tr, v'⟩ := x;rw [hx] at hj;simp only [Option.map_some, Option.some.injEq, dv, Prod.mk.injEq] at hj;have hjl : j < ops.size := by
    have := (Lz0.1 hx).1;omega
   have ho : ops[j]? = some ops[j] := Array.getElem?_eq_getElem hjl;have := (hdst j _ d' tr v' ho hx).1;rw [hj.1, hd] at this;cases hod : (ops[j]).dst with
   | none => rw [hod] at this; cases this
   | some sn =>
    rw [hod] at this;exact ⟨_, sn, ho, hod, by simpa using this.symm⟩
 have hes : ∀ (j : Nat), (effs P ops.toList)[j]? = some true → ∃ o, ops[j]? = some o ∧ yq P o.op = false := by
  intro j hj;unfold effs at hj;rw [Lz6, LzA] at hj;cases ho : ops[j]? with
  | none => rw [ho] at hj; cases hj
  | some o => rw [ho] at hj; exact ⟨o, rfl, by simpa using hj⟩
 have hes' : ∀ (j : Nat) (o : Oper), ops[j]? = some o → (effs P ops.toList)[j]? = some (!yq P o.op) := by
  intro j o ho;unfold effs;rw [Lz6, LzA, ho];rfl
 intro fuel
 induction fuel with
 | zero =>
  intro listed φ a w Hk hsz hu hC hE hH HR hn T hdf;have hall : ∀ i, i < ops.size → lst listed i = true := fun i hi => zgq (by omega) (by omega)
  have hnil : Region.ready .any ops listed = [] := by
   cases hr : Region.ready .any ops listed with
   | nil => rfl
   | cons i r =>
    obtain ⟨o, ho, h1, h2, h3⟩ := mem_ready (ops := ops) (listed := listed) (i := i) (by rw [hr]; simp)
    rw [hall i (by omega)] at h2
    cases h2
  refine ⟨hnil, hQ a w ⟨φ, hE, ?_, ?_, hdf, ?_⟩⟩
  all_goals
   have hk : Hk = zbz h hs := by
    have h1 := zc1 hs h (fun hh => by rw [hh] at g2; cases g2)
    rw [g3, Nat.add_sub_cancel] at h1;rw [xZ (L := lst listed) (L' := fun _ => true) _ 0 (fun j hj => by obtain ⟨o, ho, _⟩ := hes j hj; rw [Nat.zero_add]; exact hall j (Lz7.1 ho).1)] at hH
    exact Option.some.inj (hH.symm.trans h1)
   subst hk
  ·exact HR
  ·rw [g4, ← kC (L := lst listed) (l.map dv) 0 t (fun j hj => by rw [Nat.zero_add]; exact hall j (by simpa [hlen] using hj))]
   exact T
  ·exact hn
 | succ fuel ih =>
  intro listed φ a w Hk hsz hu hC hE hH HR hn T hdf;refine ⟨fun hnil => ?_, fun i hi => ?_⟩
  ·have hall := zco (ops := ops) hsz (fun i o e ho he hb => (hA i o ho).2 e he hb) hnil
   have hk : Hk = zbz h hs := by
    have h1 := zc1 hs h (fun hh => by rw [hh] at g2; cases g2)
    rw [g3, Nat.add_sub_cancel] at h1;rw [xZ (L := lst listed) (L' := fun _ => true) _ 0 (fun j hj => by obtain ⟨o, ho, _⟩ := hes j hj; rw [Nat.zero_add]; exact hall j (Lz7.1 ho).1)] at hH
    exact Option.some.inj (hH.symm.trans h1)
   subst hk;refine hQ a w ⟨φ, hE, HR, ?_, hdf, hn⟩;rw [g4, ← kC (L := lst listed) (l.map dv) 0 t (fun j hj => by rw [Nat.zero_add]; exact hall j (by simpa [hlen] using hj))]
   exact T
  ·obtain ⟨o, ho, hlt, hli, hR⟩ := mem_ready hi;obtain ⟨tr, v, hj⟩ := hl i o ho;obtain ⟨htr, hk0, h0', hk0s, hone0, heff0⟩ := g5 i _ tr v hj;obtain ⟨hnosel, hedge⟩ := hA i o ho;obtain ⟨hdd, hdin⟩ := hdst i o _ tr v ho hj;have before : ∀ j, bef (befs ops.toList) j i = true → lst listed j = true := fun j hb => xO hb hC hR
   have after : ∀ j, bef (befs ops.toList) i j = true → lst listed j = false := by
    intro j hb;cases hj : lst listed j with
    | false => rfl
    | true =>
     have := xO hb hC (hC j hj);rw [hli] at this;cases this
   have hCi : Clo ops (fun k => decide (k < i)) := by
    intro j hj o' e ho' he hb;have := (hA j o' ho').2 e he hb;simp only [decide_eq_true_eq] at hj ⊢;omega
   have hRi : Rdy ops (fun k => decide (k < i)) i := by
    intro o' e ho' he hb;have := (hA i o' ho').2 e he hb
    simpa using this
   have hagree : ∀ s ∈ (o.looksAt ops).map bn, (frL (fun k => decide (k < i)) 0 (l.map dv) t).get s = (frL (lst listed) 0 (l.map dv) t).get s := by
    intro s hs';obtain ⟨sn, hsn, rfl⟩ := List.mem_map.1 hs';rw [uf, uf]
    congr 1
    refine ki _ 0 fun j d v hjd hds => ?_
    obtain ⟨oj, sj, hoj, hsj, hbe⟩ := hdv j d v _ hjd hds;have := un hbe;subst this;rw [Nat.zero_add];rcases Nat.lt_trichotomy j i with hji | hji | hji
    ·rcases hord j i oj o hoj ho hji with hb | ⟨hap, _⟩
     ·rw [before j hb]; simpa using hji
     ·exact absurd hsn ((Oper.apart_spec hap).1 _ hsj)
    ·subst hji; rw [hli]; simp
    ·rcases hord i j o oj ho hoj hji with hb | ⟨hap, _⟩
     ·rw [after j hb]; simp; omega
     ·exact absurd hsn ((Oper.apart_spec hap).2.2 _ hsj)
   have htrg : ∀ s, tr.get s = (frL (lst listed) 0 (l.map dv) t).get s ∧ s ∈ (o.looksAt ops).map bn ∨ tr.get s = none := by
    intro s
    classical
    have := wC (frL (fun k => decide (k < i)) 0 (l.map dv) t) s ((o.looksAt ops).map bn)
    rw [← htr] at this;by_cases hm : s ∈ (o.looksAt ops).map bn
    ·rw [if_pos hm, hagree s hm] at this; exact .inl ⟨this, hm⟩
    ·rw [if_neg hm] at this; exact .inr this
   have Tr' : TRel φ nt Hk.n.toNat tr (wj φ nt tr) := by
    refine zeH (fun j hj => ?_) (fun s v hv => ?_)
    ·rcases htrg (bn j) with ⟨h1, _⟩ | h1
     ·rw [h1]; exact T.out j hj
     ·exact h1
    ·rcases htrg s with ⟨h1, _⟩ | h1
     ·rw [h1] at hv; exact T.wf s v hv
     ·rw [h1] at hv; cases hv
   have htmps : ∀ sn ∈ o.looksAt ops, a.tmps[sn]? = (wj φ nt tr)[sn]? := by
    intro sn hsn;by_cases hlt' : sn < nt
    ·rw [T.get sn hlt', Tr'.get sn hlt'];have hm : bn sn ∈ (o.looksAt ops).map bn := List.mem_map.2 ⟨sn, hsn, rfl⟩;rw [← hagree _ hm]
     classical
     have := wC (frL (fun k => decide (k < i)) 0 (l.map dv) t) (bn sn) ((o.looksAt ops).map bn)
     rw [← htr, if_pos hm] at this;rw [this]
    ·have e1 : a.tmps[sn]? = none := Array.getElem?_eq_none (by rw [T.size]; exact Nat.le_of_not_lt hlt')
     have e2 : (wj φ nt tr)[sn]? = none := Array.getElem?_eq_none (by rw [Tr'.size]; exact Nat.le_of_not_lt hlt')
     rw [e1, e2]
   have hexec : execOp a.eval o = execOp ({ tmps := wj φ nt tr, defers := [] } : Act).eval o := by
    refine execOp_congr o hnosel fun x hx => ?_
    cases x with
    | tmp sn =>
     have := htmps sn (List.mem_append_left _ (List.mem_filterMap.2 ⟨.tmp sn, by simpa using hx, rfl⟩))
     simp only [Act.eval, Array.getD_eq_getD_getElem?, this]
    | _ => rfl
   have hwant : Region.wanted o (yielded ops a.tmps) = Region.wanted o (yielded ops (wj φ nt tr)) := by
    unfold Region.wanted;cases hg : o.guard with
    | none => rfl
    | some gb =>
     obtain ⟨g, b⟩ := gb;simp only;have : yielded ops a.tmps g = yielded ops (wj φ nt tr) g := by
      unfold yielded;cases hd : (ops[g]?).bind (·.dst) with
      | none => rfl
      | some sn =>
       have := htmps sn (List.mem_append_right _ (by simp [hg, hd]))
       simp only [Option.bind_some, this]
     rw [this]
   have hone : ∃ h', y9 call (yF P nt ops o) tr Hk = some (v, h') ∧ hs[ce (lst (listed.setIfInBounds i true)) 0 (effs P ops.toList)]? = some h' := by
    cases hq : yq P o.op with
    | false =>
     have hce : ce (lst listed) 0 (effs P ops.toList) = ce (fun k => decide (k < i)) 0 (effs P ops.toList) := by
      refine xZ _ 0 fun j hj => ?_
      obtain ⟨oj, hoj, hqj⟩ := hes j hj;rw [Nat.zero_add];rcases Nat.lt_trichotomy j i with hji | hji | hji
      ·rcases hord j i oj o hoj ho hji with hb | ⟨_, hqq⟩
       ·rw [before j hb]; simpa using hji
       ·rw [hq, hqj] at hqq; simp at hqq
      ·subst hji; rw [hli]; simp
      ·rcases hord i j o oj ho hoj hji with hb | ⟨_, hqq⟩
       ·rw [after j hb]; simp; omega
       ·rw [hq, hqj] at hqq; simp at hqq
     rw [hce] at hH;cases hH.symm.trans hk0s;refine ⟨h0', hone0, ?_⟩;have := heff0 (by simp [hq])
     rw [← hce] at this;rw [zeL (L := lst listed) (effs P ops.toList) 0 i (by rw [hes' i o ho, hq]; rfl) (by rw [Nat.zero_add]; exact hli) (by rw [wh hlt]; simp) (fun j hj => by rw [Nat.zero_add] at hj; rw [wh hlt]; simp [hj])]
     exact this
    | true =>
     have hsame : ce (lst (listed.setIfInBounds i true)) 0 (effs P ops.toList) = ce (lst listed) 0 (effs P ops.toList) := by
      refine xZ _ 0 fun j hj => ?_
      rw [Nat.zero_add, wh hlt];obtain ⟨oj, hoj, hqj⟩ := hes j hj;have : j ≠ i := fun hh => by subst hh; cases ho.symm.trans hoj; rw [hq] at hqj; cases hqj
      simp [this]
     have hlo : ce (fun k => bef (befs ops.toList) k i) 0 (effs P ops.toList) ≤ ce (lst listed) 0 (effs P ops.toList) := xD _ 0 fun j _ hb => by rw [Nat.zero_add] at hb ⊢; exact before j hb
     have hhi : ce (lst listed) 0 (effs P ops.toList) ≤ ce (fun k => !bef (befs ops.toList) i k) 0 (effs P ops.toList) := xD _ 0 fun j _ hb => by
      rw [Nat.zero_add] at hb ⊢;cases hbb : bef (befs ops.toList) i j with
      | false => rfl
      | true => rw [after j hbb] at hb; cases hb
     have hlo0 : ce (fun k => bef (befs ops.toList) k i) 0 (effs P ops.toList) ≤ ce (fun k => decide (k < i)) 0 (effs P ops.toList) := xD _ 0 fun j _ hb => by rw [Nat.zero_add] at hb ⊢; exact xO hb hCi hRi
     have hhi0 : ce (fun k => decide (k < i)) 0 (effs P ops.toList) ≤ ce (fun k => !bef (befs ops.toList) i k) 0 (effs P ops.toList) := xD _ 0 fun j _ hb => by
      rw [Nat.zero_add] at hb ⊢;cases hbb : bef (befs ops.toList) i j with
      | false => rfl
      | true =>
       have := xO hbb hCi (hCi j hb);simp at this
     have hex : ∃ h', y9 call (yF P nt ops o) tr Hk = some (v, h') := by
      rcases zbg l hch i _ tr v hj (by simp [hq]) with heq | hall
      ·simp only at heq;have : ce (lst listed) 0 (effs P ops.toList) = ce (fun k => decide (k < i)) 0 (effs P ops.toList) := by omega
       rw [this] at hH;cases hH.symm.trans hk0s;exact ⟨h0', hone0⟩
      ·exact hall _ Hk hlo hhi hH
     obtain ⟨h', hh'⟩ := hex;refine ⟨h', hh', ?_⟩;have : h' = Hk := by
      rcases zeA (a := { tmps := wj φ nt tr, defers := [] }) hh' Tr' with ⟨_, hc⟩ | ⟨_, _, hc⟩
      ·exact zi0 P o.op hq _ _ _ _ _ hc
      ·exact hc
     rw [this, hsame];exact hH
   obtain ⟨h', hone, hH'⟩ := hone;have hC' : Clo ops (lst (listed.setIfInBounds i true)) := by
    intro j hj o' e ho' he hb;rw [wh hlt] at hj ⊢;rw [Bool.or_eq_true]
    right
    simp only [Bool.or_eq_true, decide_eq_true_eq] at hj;rcases hj with hj | hj
    ·subst hj;exact hR o' e ho' he hb
    ·exact hC j hj o' e ho' he hb
   have next : ∀ (φ2 : Phi) (w2 : World), Ext Hk.n.toNat φ φ2 → HRel w0 S φ2 h' w2 → wfA φ2 h'.n.toNat v → Hk.n.toNat ≤ h'.n.toNat → wpAnyIn (FR ro) 0 P .any ops Q fuel (listed.setIfInBounds i true) (a.put o.dst (zo φ2 v)) w2 := by
    intro φ2 w2 he H2 hv hle;refine ih _ φ2 _ w2 h' (by simpa using hsz) ?_ hC' (hE.trans he hn) hH' H2 (Nat.le_trans hn hle) ?_ ((put_defers _ _ _).trans hdf)
    ·have := ziQ hlt hli;omega
    ·refine TRel.of_get (TRel.put (T.ext he hle) hv o.dst hdin) fun s => ?_
     classical
     rw [zcz, uf];have hri : (l.map dv)[i]? = some (o.dst.map bn, v) := by
      rw [Lz6, hj];simp only [Option.map_some, dv];rw [← hdd]
     by_cases hd : o.dst.map bn = some s
     ·rw [if_pos hd];rw [hd] at hri;rw [zfA (l.map dv) 0 i v hri (by rw [Nat.zero_add, wh hlt]; simp) (fun j d u hij hjd hds => ?_)]
      ·rfl
      ·rw [Nat.zero_add, wh hlt];obtain ⟨oj, sj, hoj, hsj, hbe⟩ := hdv j d u _ hjd hds;have hne : ¬ j = i := by omega
       simp only [hne, decide_false, Bool.false_or];rcases hord i j o oj ho hoj hij with hb | ⟨hap, _⟩
       ·exact after j hb
       ·cases hod : o.dst with
        | none => rw [hod] at hd; cases hd
        | some so =>
         rw [hod] at hd;have : so = sj := un (by rw [hbe]; simpa using hd)
         subst this;exact absurd hsj ((Oper.apart_spec hap).2.1 _ hod)
     ·rw [if_neg hd, uf]
      congr 1
      refine ki _ 0 fun j d u hjd hds => ?_
      rw [Nat.zero_add, wh hlt];have hne : ¬ j = i := fun hh => by
       subst hh;rw [hri] at hjd;cases hjd;exact hd hds
      simp [hne]
   unfold wpOpIn;simp only [ho];rcases zeA (a := { tmps := wj φ nt tr, defers := [] }) hone Tr' with ⟨hw, hc⟩ | ⟨hw, hv, hh⟩
   ·rw [if_pos (by rw [hwant]; exact hw)]
    exact zd6 C HR (ar := { tmps := wj φ nt tr, defers := [] }) Tr' hexec hc next
   ·rw [if_neg (by rw [hwant, hw]; simp)]
    subst hv hh;exact ⟨fun f _ => trivial, next φ w (Ext.refl _ _) HR (fun _ hv => by cases hv) (LzB _)⟩
end
end Go.CE
end
section
namespace Go.CE
open Go.RowKit
section
variable {α : Type}
theorem uM : ∀ (n : BN) (t : Tr α), (t.del n).get n = none := by
 intro n
 induction n with
 | z => intro t; cases t <;> rfl
 | o n ih => intro t; cases t with
  | nil => rfl
  | node l v r => exact ih l
 | d n ih => intro t; cases t with
  | nil => rfl
  | node l v r => exact ih r
theorem ud : ∀ (n m : BN) (t : Tr α), m ≠ n → (t.del n).get m = t.get m := by
 intro n
 induction n with
 | z => intro m t h; cases t with
  | nil => rfl
  | node l v r => cases m with
   | z => exact absurd rfl h
   | o m => rfl
   | d m => rfl
 | o n ih => intro m t h; cases t with
  | nil => rfl
  | node l v r => cases m with
   | z => rfl
   | o m => exact ih m l (fun e => h (by rw [e]))
   | d m => rfl
 | d n ih => intro m t h; cases t with
  | nil => rfl
  | node l v r => cases m with
   | z => rfl
   | o m => rfl
   | d m => exact ih m r (fun e => h (by rw [e]))
end
abbrev nm (n0 j : Nat) : BN := bn (Nat.add n0 j)
theorem yl (n0 j : Nat) : (nm n0 j).toNat = n0 + j := zO _
theorem wU {n0 i j : Nat} (h : nm n0 i = nm n0 j) : i = j := by
 have := congrArg BN.toNat h;rw [yl, yl] at this;omega
theorem zsZ {n0 : Nat} {b : BN} (h : n0 ≤ b.toNat) : b = nm n0 (b.toNat - n0) := by
 apply BN.toNat_inj;rw [yl];omega
theorem zbb {n0 : Nat} : ∀ (l : List Nat) (t : Tr AObj) (j : Nat), j ∈ l → (delH n0 l t).get (nm n0 j) = none
 | [], _, j, h => by cases h
 | i :: l, t, j, h => by
  unfold delH;by_cases hj : j ∈ l
  ·exact zbb l _ j hj
  ·have hji : j = i := by
    rcases List.mem_cons.1 h with h | h
    ·exact h
    ·exact absurd h hj
   subst hji;have key : ∀ (l : List Nat) (t : Tr AObj) (b : BN), t.get b = none → (delH n0 l t).get b = none := by
    intro l
    induction l with
    | nil => intro t b h; exact h
    | cons i l ih =>
     intro t b h;unfold delH;apply ih;by_cases hb : b = bn (Nat.add n0 i)
     ·subst hb; exact uM _ _
     ·rw [ud _ _ _ hb]; exact h
   exact key l _ _ (uM _ _)
theorem wX {n0 : Nat} : ∀ (l : List Nat) (t : Tr AObj) (b : BN), (∀ j ∈ l, b ≠ nm n0 j) → (delH n0 l t).get b = t.get b
 | [], _, _, _ => rfl
 | i :: l, t, b, h => by
  unfold delH;rw [wX l _ b fun j hj => h j (by simp [hj]), ud _ _ _ (h i (by simp))]
theorem jg {n0 : Nat} {h : Tr AObj} : ∀ (l : List Nat) (t t' : Tr AObj), zdB n0 h l t = some t' →
  (∀ j ∈ l, t'.get (nm n0 j) = h.get (nm n0 j)) ∧ (∀ b, (∀ j ∈ l, b ≠ nm n0 j) → t'.get b = t.get b) ∧ ∀ j ∈ l, t.get (nm n0 j) = none
 | [], t, t', e => by cases e; exact ⟨fun j hj => (by cases hj), fun _ _ => rfl, fun j hj => (by cases hj)⟩
 | i :: l, t, t', e => by
  unfold zdB at e;split at e
  ·cases e
  ·rename_i hn;split at e
   ·rename_i o ho;obtain ⟨g1, g2, g3⟩ := jg l _ t' e;have hni : ∀ j ∈ l, nm n0 i ≠ nm n0 j := fun j hj hh => by
     have := g3 j hj;rw [← hh] at this;rw [show nm n0 i = bn (Nat.add n0 i) from rfl, zx] at this
     cases this
    refine ⟨fun j hj => ?_, fun b hb => ?_, fun j hj => ?_⟩
    ·rcases List.mem_cons.1 hj with rfl | hj
     ·rw [g2 _ hni, show nm n0 j = bn (Nat.add n0 j) from rfl, zx, ho]
     ·exact g1 j hj
    ·rw [g2 b fun j hj => hb j (by simp [hj])]
     exact zn _ _ _ _ (hb i (by simp))
    ·rcases List.mem_cons.1 hj with rfl | hj
     ·exact hn
     ·have := g3 j hj
      rwa [zn _ _ _ _ (fun hh => hni j hj hh.symm)] at this
   ·rename_i ho;obtain ⟨g1, g2, g3⟩ := jg l _ t' e;refine ⟨fun j hj => ?_, fun b hb => g2 b fun j hj => hb j (by simp [hj]), fun j hj => ?_⟩
    ·rcases List.mem_cons.1 hj with rfl | hj
     ·by_cases hm : ∀ k ∈ l, nm n0 j ≠ nm n0 k
      ·rw [g2 _ hm]; exact hn.trans ho.symm
      ·simp only [Classical.not_forall, ne_eq, Classical.not_not] at hm;obtain ⟨k, hk, he⟩ := hm;rw [he]; exact g1 k hk
     ·exact g1 j hj
    ·rcases List.mem_cons.1 hj with rfl | hj
     ·exact hn
     ·exact g3 j hj
theorem mixT {n0 : Nat} (h t : Tr AObj) : ∀ (l : List Nat), ∃ t' : Tr AObj, (∀ j ∈ l, t'.get (nm n0 j) = h.get (nm n0 j)) ∧ ∀ b, (∀ j ∈ l, b ≠ nm n0 j) → t'.get b = t.get b
 | [] => ⟨t, fun j hj => (by cases hj), fun _ _ => rfl⟩
 | i :: l => by
  obtain ⟨t1, g1, g2⟩ := mixT h t l;have key : ∃ t2 : Tr AObj, t2.get (nm n0 i) = h.get (nm n0 i) ∧ ∀ b, b ≠ nm n0 i → t2.get b = t1.get b := by
   cases ho : h.get (nm n0 i) with
   | none => exact ⟨t1.del (nm n0 i), uM _ _, fun b hb => ud _ _ _ hb⟩
   | some o => exact ⟨t1.set (nm n0 i) o, zx _ _ _, fun b hb => zn _ _ _ _ hb⟩
  obtain ⟨t2, k1, k2⟩ := key;refine ⟨t2, fun j hj => ?_, fun b hb => ?_⟩
  ·by_cases hji : nm n0 j = nm n0 i
   ·rw [hji]; exact k1
   ·rw [k2 _ hji];rcases List.mem_cons.1 hj with rfl | hj
    ·exact absurd rfl hji
    ·exact g1 j hj
  ·rw [k2 b (hb i (by simp)), g2 b fun j hj => hb j (by simp [hj])]
def Sbh (e h : AHeap) : Prop := ∀ b o, e.t.get b = some o → h.t.get b = some o
section
variable {w0 : World} {S : Nat → Prop} {φ φ2 : Phi} {h e e2 h2 : AHeap} {w w2 : World}
def Desc (φ : Phi) (e : AHeap) (k : Nat) : Prop := ∃ b o, e.t.get b = some o ∧ live o ∧ (φ b).blk = k
theorem HRel.sub (H : HRel w0 S φ h w) (hs : Sbh e h) (hn : e.n.toNat = h.n.toNat) : HRel w (Desc φ e) φ e w :=
 ⟨fun b o hb => by rw [hn]; exact H.keys b o (hs b o hb), fun b o hb => H.okb b o (hs b o hb), fun b o hb => by rw [hn]; exact H.obj b o (hs b o hb),
  fun b b' o o' hb hb' hl hl' he => H.inj b b' o o' (hs b o hb) (hs b' o' hb') hl hl' he, fun b o hb hl => .inl ⟨b, o, hb, hl, rfl⟩, rfl, rfl, rfl, LzB _, fun _ _ _ => rfl, H.glob, fun b o hb hl => H.flat b o (hs b o hb) hl, fun b o hb hl => H.ng b o (hs b o hb) hl⟩
theorem HRel.join (H : HRel w0 S φ h w) (hs : Sbh e h) (_hn : e.n.toNat = h.n.toNat) (H2 : HRel w (Desc φ e) φ2 e2 w2) (he : Ext h.n.toNat φ φ2) (hle : h.n.toNat ≤ e2.n.toNat)
  (hn2 : h2.n.toNat = e2.n.toNat) (hg : ∀ b o, h2.t.get b = some o → e2.t.get b = some o ∨ (h.t.get b = some o ∧ e.t.get b = none)) : HRel w0 S φ2 h2 w2 := by
 have hold : ∀ b o, h.t.get b = some o → φ2 b = φ b := fun b o hb => he b (H.keys b o hb)
 have hdesc : ∀ k, Desc φ e k → S k ∨ w0.heap.size ≤ k := by
  rintro k ⟨b, o, hb, hl, rfl⟩
  exact H.own b o (hs b o hb) hl
 have hrest : ∀ b o, h.t.get b = some o → e.t.get b = none → live o → ¬ Desc φ e (φ b).blk := by
  rintro b o hb hn hl ⟨c, o', hc, hl', hcc⟩
  have := H.inj c b o' o (hs c o' hc) hb hl' hl hcc;subst this;rw [hn] at hc;cases hc
 have hlt : ∀ b o, h.t.get b = some o → live o → (φ b).blk < w.heap.size := fun b o hb hl => (H.obj b o hb).there hl
 refine ⟨fun b o hb => ?_, fun b o hb => ?_, fun b o hb => ?_, fun b b' o o' hb hb' hl hl' hh => ?_, fun b o hb hl => ?_, H2.os.trans H.os, H2.tape.trans H.tape, H2.output.trans H.output, Nat.le_trans H.size H2.size, fun k hk hS => ?_, H2.glob, fun b o hb hl => ?_, fun b o hb hl => ?_⟩
 ·rw [hn2];rcases hg b o hb with hb | ⟨hb, _⟩
  ·exact H2.keys b o hb
  ·exact Lz9 (H.keys b o hb) hle
 ·rcases hg b o hb with hb | ⟨hb, _⟩
  ·exact H2.okb b o hb
  ·rw [hold b o hb]; exact H.okb b o hb
 ·rw [hn2];rcases hg b o hb with hb | ⟨hb, hnone⟩
  ·exact H2.obj b o hb
  ·exact ((H.obj b o hb).world fun hl => H2.kept _ (hlt b o hb hl) (hrest b o hb hnone hl)).ext (H.okk b o hb) he hle
 ·have hcross : ∀ b b' o o', e2.t.get b = some o → h.t.get b' = some o' → e.t.get b' = none → live o → live o' → (φ2 b).blk = (φ2 b').blk → False := by
   intro b b' o o' hb hb' hn hl hl' hh;rw [hold b' o' hb'] at hh;rcases H2.own b o hb hl with h1 | h1
   ·rw [hh] at h1; exact hrest b' o' hb' hn hl' h1
   ·have := hlt b' o' hb' hl'; omega
  rcases hg b o hb with hb | ⟨hb, hnb⟩ <;> rcases hg b' o' hb' with hb' | ⟨hb', hnb'⟩
  ·exact H2.inj b b' o o' hb hb' hl hl' hh
  ·exact (hcross b b' o o' hb hb' hnb' hl hl' hh).elim
  ·exact (hcross b' b o' o hb' hb hnb hl' hl hh.symm).elim
  ·rw [hold b o hb, hold b' o' hb'] at hh; exact H.inj b b' o o' hb hb' hl hl' hh
 ·rcases hg b o hb with hb | ⟨hb, _⟩
  ·rcases H2.own b o hb hl with h1 | h1
   ·exact hdesc _ h1
   ·exact .inr (Nat.le_trans H.size h1)
  ·rw [hold b o hb]; exact H.own b o hb hl
 ·rw [H2.kept k (Lz9 hk H.size) (fun hd => by
   rcases hdesc k hd with h1 | h1
   ·exact hS h1
   ·omega)]
  exact H.kept k hk hS
 ·rcases hg b o hb with hb | ⟨hb, _⟩
  ·exact H2.flat b o hb hl
  ·rw [hold b o hb]; exact H.flat b o hb hl
 ·rcases hg b o hb with hb | ⟨hb, _⟩
  ·exact H2.ng b o hb hl
  ·rw [hold b o hb]; exact H.ng b o hb hl
theorem HRel.of_get (H : HRel w0 S φ h w) (hg : ∀ b, e.t.get b = h.t.get b) (hn : e.n.toNat = h.n.toNat) : HRel w0 S φ e w :=
 ⟨fun b o hb => by rw [hn]; exact H.keys b o (by rw [← hg]; exact hb), fun b o hb => H.okb b o (by rw [← hg]; exact hb), fun b o hb => by rw [hn]; exact H.obj b o (by rw [← hg]; exact hb),
  fun b b' o o' hb hb' => H.inj b b' o o' (by rw [← hg]; exact hb) (by rw [← hg]; exact hb'), fun b o hb => H.own b o (by rw [← hg]; exact hb), H.os, H.tape, H.output, H.size, H.kept, H.glob, fun b o hb hl => H.flat b o (by rw [← hg]; exact hb) hl, fun b o hb hl => H.ng b o (by rw [← hg]; exact hb) hl⟩
noncomputable def zb8 (φ : Phi) (n0 N : Nat) : Phi := fun b => if n0 ≤ b.toNat ∧ b.toNat < n0 + N then ⟨0, 0, 0, false, none⟩ else φ b
theorem zb7 (φ : Phi) (n0 N : Nat) : Ext n0 φ (zb8 φ n0 N) := fun b hb => by
 unfold zb8;rw [if_neg (by omega)]
theorem zkn (φ : Phi) (n0 N j : Nat) (hj : j < N) : (zb8 φ n0 N (nm n0 j)).ok = false := by
 unfold zb8;rw [if_pos (by rw [yl]; omega)]
theorem HRel.keep (H : HRel w0 S φ h w) (N : Nat) : HRel w0 S (zb8 φ h.n.toNat N) ⟨bn (Nat.add h.n.toNat N), h.t⟩ w := by
 have he := zb7 φ h.n.toNat N;have hn : (bn (Nat.add h.n.toNat N)).toNat = h.n.toNat + N := zO _;refine ⟨fun b o hb => ?_, fun b o hb => ?_, fun b o hb => ?_, fun b b' o o' hb hb' hl hl' hh => ?_, fun b o hb hl => ?_, H.os, H.tape, H.output, H.size, H.kept, H.glob, fun b o hb hl => ?_, fun b o hb hl => ?_⟩
 ·show b.toNat < (bn (Nat.add h.n.toNat N)).toNat;rw [hn]; have := H.keys b o hb; omega
 ·rw [he b (H.keys b o hb)]; exact H.okb b o hb
 ·show ORel _ (bn (Nat.add h.n.toNat N)).toNat w b o;rw [hn];exact (H.obj b o hb).ext (H.okk b o hb) he (by omega)
 ·rw [he b (H.keys b o hb), he b' (H.keys b' o' hb')] at hh;exact H.inj b b' o o' hb hb' hl hl' hh
 ·rw [he b (H.keys b o hb)]; exact H.own b o hb hl
 ·rw [he b (H.keys b o hb)]; exact H.flat b o hb hl
 ·rw [he b (H.keys b o hb)]; exact H.ng b o hb hl
def OWf (φ : Phi) (n : Nat) : AObj → Prop
 | .cells cs _ => ∀ c ∈ cs, wfC φ n c
 | .ro _ f => ∀ i c, f i = some c → wfC φ n c
 | .tcells cs _ _ => ∀ c ∈ cs, wfC φ n c
 | .map es => ∀ p ∈ es, wfS φ n p.1 ∧ wfS φ n p.2
 | .loop _ _ _ _ tmps _ _ _ d => (∀ i v, tmps.get i = some v → wfA φ n v) ∧ okB φ n d
 | _ => True
theorem ORel.wf {n : Nat} {b : BN} {o : AObj} (h : ORel φ n w b o) : OWf φ n o := by
 cases o with
 | cells cs st => obtain ⟨_, _, _, _, _, h4⟩ := h; exact h4
 | ro x f => obtain ⟨_, _, _, _, _, h4⟩ := h; exact fun i c hc => (h4 i c hc).2
 | tcells cs ty var => obtain ⟨_, _, _, _, _, _, h4⟩ := h; exact h4
 | map es => obtain ⟨_, _, _, _, h3, _⟩ := h; exact h3
 | loop st pend fn nt tmps ps assign body d => obtain ⟨_, _, _, h2, h3⟩ := h; exact ⟨h2.wf, h3⟩
 | _ => trivial
theorem ORel.recast {φ1 φ2 : Phi} {n n1 n2 : Nat} {b b2 : BN} {o : AObj} (h : ORel φ1 n1 w b o) (hw : OWf φ n o) (hb : φ2 b2 = φ1 b) (e1 : ExtW n φ φ1) (e2 : ExtW n φ φ2) (hn2 : n ≤ n2) : ORel φ2 n2 w b2 o := by
 have cc : ∀ c, wfC φ n c → zi φ2 c = zi φ1 c := fun c hc => (xH e2 hc).trans (xH e1 hc).symm
 have cs' : ∀ c, wfS φ n c → zF φ2 c = zF φ1 c := fun c hc => (wz e2 hc).trans (wz e1 hc).symm
 have ca : ∀ c, wfA φ n c → zo φ2 c = zo φ1 c := fun c hc => (qe e2 hc).trans (qe e1 hc).symm
 cases o with
 | cells cs st =>
  obtain ⟨arr, e, h1, h2, h3, h4⟩ := h;refine ⟨arr, e, by rw [hb]; exact h1, fun i c hc => ?_, by rw [hb]; exact h3, fun c hc => xV e2 hn2 (hw c hc)⟩
  rw [hb, cc c (hw c (Lz3 hc))];exact h2 i c hc
 | ro x f =>
  obtain ⟨h0, arr, e, fr, h1, h2⟩ := h;refine ⟨fun y hy => by rw [hb]; exact h0 y hy, arr, e, fr, by rw [hb]; exact h1, fun i c hc => ?_⟩
  obtain ⟨k1, _⟩ := h2 i c hc;exact ⟨by rw [hb, cc c (hw i c hc)]; exact k1, xV e2 hn2 (hw i c hc)⟩
 | tcells cs ty var =>
  obtain ⟨arr, h1, h2, h3, h4, h5, h6⟩ := h;refine ⟨arr, by rw [hb]; exact h1, fun i c hc => ?_, by rw [hb]; exact h3, by rw [hb]; exact h4, h5, fun c hc => xV e2 hn2 (hw c hc)⟩
  rw [cc c (hw c (Lz3 hc))];exact h2 i c hc
 | dead => trivial
 | void => trivial
 | map es =>
  obtain ⟨ents, clock, h1, h2, h3, h4⟩ := h;refine ⟨ents, clock, by rw [hb]; exact h1, ?_, fun p hp => ⟨vT e2 hn2 (hw p hp).1, vT e2 hn2 (hw p hp).2⟩, h4⟩
  rw [h2];exact List.map_congr_left fun p hp => by rw [cs' _ (hw p hp).1, cs' _ (hw p hp).2]
 | loop st pend fn nt tmps ps assign body d =>
  obtain ⟨arr, f, h1, h2, h3⟩ := h;obtain ⟨w1, w2'⟩ := hw;refine ⟨arr, f, by rw [hb, (e2 d w2').trans (e1 d w2').symm]; exact h1, ⟨h2.size, fun i hi => ?_, h2.out, fun i v hv => zgj e2 hn2 (w1 i v hv)⟩, okB.extW e2 hn2 w2'⟩
  rw [h2.get i hi];cases hg : tmps.get (bn i) with
  | none => rfl
  | some v => simp only [Option.getD_some]; rw [ca v (w1 _ _ hg)]
 | defer => unfold ORel at *; rw [hb]; exact h
theorem HRel.rename (H : HRel w0 S φ h w) {o : AObj} {φ1 : Phi} (H1 : HRel w0 S φ1 (h.new o) w2) (he : Ext h.n.toNat φ φ1) (hw : OWf φ h.n.toNat o) {b : BN} (hb : b.toNat < h.n.toNat) (hbad : (φ b).ok = false) (hnone : h.t.get b = none) :
  HRel w0 S (upd φ b (φ1 h.n)) (h.put b o) w2 ∧ ExtW h.n.toNat φ (upd φ b (φ1 h.n)) := by
 have hnb : ∀ c o', h.t.get c = some o' → c ≠ b := fun c o' hc hh => by rw [hh, hnone] at hc; cases hc
 have hnn : ∀ c o', h.t.get c = some o' → c ≠ h.n := fun c o' hc hh => by have := H.keys c o' hc; rw [hh] at this; omega
 have hupd : ∀ c, c ≠ b → upd φ b (φ1 h.n) c = φ c := fun c hc => by simp [upd, hc]
 have hget : ∀ c x, (h.put b o).t.get c = some x → (c = b ∧ x = o) ∨ (c ≠ b ∧ h.t.get c = some x) := by
  intro c x hc;simp only [AHeap.put, uL] at hc;split at hc
  ·rename_i e; exact .inl ⟨e, (Option.some.inj hc).symm⟩
  ·rename_i e; exact .inr ⟨e, hc⟩
 have hold : ∀ c x, h.t.get c = some x → (h.new o).t.get c = some x := fun c x hc => by
  simp only [AHeap.new]; rw [zn _ _ _ _ (hnn c x hc)]; exact hc
 have hnew : (h.new o).t.get h.n = some o := by simp only [AHeap.new]; exact zx _ _ _
 have e2 : ExtW h.n.toNat φ (upd φ b (φ1 h.n)) := fun c hc => hupd c fun hh => by have := hc.2; rw [hh, hbad] at this; cases this
 refine ⟨⟨fun c x hc => ?_, fun c x hc => ?_, fun c x hc => ?_, fun c c' x x' hc hc' hl hl' hh => ?_, fun c x hc hl => ?_, H1.os, H1.tape, H1.output, H1.size, H1.kept, H1.glob, fun c x hc hl => ?_, fun c x hc hl => ?_⟩, e2⟩
 ·rcases hget c x hc with ⟨rfl, _⟩ | ⟨_, hc'⟩
  ·exact hb
  ·exact H.keys c x hc'
 ·rcases hget c x hc with ⟨rfl, _⟩ | ⟨hne, hc'⟩
  ·rw [zm]; exact H1.okb _ _ hnew
  ·rw [hupd c hne]; exact H.okb c x hc'
 ·rcases hget c x hc with ⟨rfl, rfl⟩ | ⟨hne, hc'⟩
  ·exact (H1.obj _ _ hnew).recast hw (zm _ _ _) he.w e2 (LzB _)
  ·exact (H1.obj _ _ (hold c x hc')).recast (H.obj c x hc').wf ((hupd c hne).trans (he c (H.keys c x hc')).symm) he.w e2 (LzB _)
 ·rcases hget c x hc with ⟨rfl, rfl⟩ | ⟨hne, hc1⟩ <;> rcases hget c' x' hc' with ⟨rfl, rfl⟩ | ⟨hne', hc2⟩
  ·rfl
  ·rw [zm, hupd c' hne', ← he c' (H.keys c' x' hc2)] at hh;exact absurd (H1.inj _ _ _ _ hnew (hold c' x' hc2) hl hl' hh).symm (hnn c' x' hc2)
  ·rw [zm, hupd c hne, ← he c (H.keys c x hc1)] at hh;exact absurd (H1.inj _ _ _ _ (hold c x hc1) hnew hl hl' hh) (hnn c x hc1)
  ·rw [hupd c hne, hupd c' hne'] at hh;exact H.inj c c' x x' hc1 hc2 hl hl' hh
 ·rcases hget c x hc with ⟨rfl, rfl⟩ | ⟨hne, hc'⟩
  ·rw [zm]; exact H1.own _ _ hnew hl
  ·rw [hupd c hne]; exact H.own c x hc' hl
 ·rcases hget c x hc with ⟨rfl, rfl⟩ | ⟨hne, hc'⟩
  ·rw [zm]; exact H1.flat _ _ hnew hl
  ·rw [hupd c hne]; exact H.flat c x hc' hl
 ·rcases hget c x hc with ⟨rfl, rfl⟩ | ⟨hne, hc'⟩
  ·rw [zm]; exact H1.ng _ _ hnew hl
  ·rw [hupd c hne]; exact H.ng c x hc' hl
end
end Go.CE
end
section
namespace Go.CE
open Go.RowKit
def yK (f : OpFn) : Prop := ∀ call t h h' v h2, f call t h = some (v, h2) → Sbh h h' → f call t h' = some (v, h')
theorem zG : yK (zV none) := fun _ _ _ _ _ _ e => by cases e
theorem zA {f : OpFn} (hf : yK f) : yK (zV (some f)) := hf
theorem zj9 {α : Type} {a : Option α} {g : α → Option OpFn} (hg : ∀ x, yK (zV (g x))) : yK (zV (a.bind g)) := by
 cases a with
 | none => exact zG
 | some x => exact hg x
theorem zg {α : Type} {a : Option α} {g : α → Option OpFn} (hg : ∀ x, yK (zV (g x))) : yK (zV (a >>= g)) := zj9 hg
theorem zgV {α : Type} {a : Option α} {g : α → OpFn} (hg : ∀ x, yK (g x)) : yK (zV (a.map g)) := by
 cases a with
 | none => exact zG
 | some x => exact hg x
theorem xc {b : Bool} {x y : Option OpFn} (hx : yK (zV x)) (hy : yK (zV y)) : yK (zV (bif b then x else y)) := by
 cases b
 ·exact hy
 ·exact hx
section
variable {h h' h2 : AHeap} {v : AVal}
theorem zR {c : Option CVal} (e : retC h c = some (v, h2)) : retC h' c = some (v, h') := by cases c <;> cases e; rfl
theorem zS {c : Option (List CVal)} (e : retA h c = some (v, h2)) : retA h' c = some (v, h') := by cases c <;> cases e; rfl
theorem zU {n : Option Nat} {cs : List CVal} {off : Nat} (e : part n cs off h = some (v, h2)) : part n cs off h' = some (v, h') := by
 cases n
 ·exact zR e
 ·exact zS e
theorem yG {b : Bool} {x y x' y' : Res} (hx : x = some (v, h2) → x' = some (v, h')) (hy : y = some (v, h2) → y' = some (v, h')) (e : (bif b then x else y) = some (v, h2)) : (bif b then x' else y') = some (v, h') := by
 cases b
 ·exact hy e
 ·exact hx e
theorem zdN {st : Nat} {lo hi mx : Option Opd} {t : Tr AVal} {b : BN} {off len cap : Nat} (e : y3 st lo hi mx t h b off len cap = some (v, h2)) : y3 st lo hi mx t h' b off len cap = some (v, h') := by
 unfold y3 at e ⊢
 (repeat' split at e) <;> first | (cases e; done) | ((try simp only [*]); exact yG (fun e => by cases e; rfl) (fun e => by cases e) e)
theorem zi2 {st : Nat} {lo hi mx : Option Opd} {t : Tr AVal} {b : BN} {off len cap : Nat} (e : y0 st lo hi mx t h b off len cap = some (v, h2)) : y0 st lo hi mx t h' b off len cap = some (v, h') := by
 unfold y0 at e ⊢
 (repeat' split at e) <;> first | (cases e; done) | (cases e; simp only [*]; done) | ((try simp only [*]); exact yG (fun e => by cases e; rfl) (fun e => by cases e) e)
theorem zhV {lo hi mx : Option Opd} {t : Tr AVal} (e : xg lo hi mx t h = some (v, h2)) : xg lo hi mx t h' = some (v, h') := by
 unfold xg at e ⊢;split at e
 ·cases e; simp only [*]
 ·cases e
end
theorem zfx (x) : yK (opMv x) := by
 intro call t h h' v h2 e _;unfold opMv at e ⊢
 (repeat' split at e) <;> first
  | (cases e; done)
  | (cases e; simp only [*]; done)
  | ((try simp only [*]); first | exact zR e | exact zS e | exact zU e | exact yG (fun e => by first | (cases e; rfl) | exact zR e | exact zS e | exact zU e) (fun e => by cases e) e)
theorem zj0 (x y z) : yK (uy x y z) := by
 intro call t h h' v h2 e _;unfold uy at e ⊢
 (repeat' split at e) <;> first
  | (cases e; done)
  | (cases e; simp only [*]; done)
  | ((try simp only [*]); first | exact zR e | exact zS e | exact zU e | exact yG (fun e => by first | (cases e; rfl) | exact zR e | exact zS e | exact zU e) (fun e => by cases e) e)
theorem zb2 (zs ps) : yK (wM zs ps) := by
 intro call t h h' v h2 e _;exact zS e
theorem zie (x) : yK (wH x) := by
 intro call t h h' v h2 e _;unfold wH at e ⊢
 (repeat' split at e) <;> first
  | (cases e; done)
  | (cases e; simp only [*]; done)
  | ((try simp only [*]); first | exact zR e | exact zS e | exact zU e | exact yG (fun e => by first | (cases e; rfl) | exact zR e | exact zS e | exact zU e) (fun e => by cases e) e)
theorem zmp (g x y) : yK (qR g x y) := by
 intro call t h h' v h2 e _;unfold qR at e ⊢
 (repeat' split at e) <;> first
  | (cases e; done)
  | (cases e; simp only [*]; done)
  | ((try simp only [*]); first | exact zR e | exact zS e | exact zU e | exact yG (fun e => by first | (cases e; rfl) | exact zR e | exact zS e | exact zU e) (fun e => by cases e) e)
theorem zb0 (g x y) : yK (xS g x y) := by
 intro call t h h' v h2 e _;unfold xS at e ⊢
 (repeat' split at e) <;> first
  | (cases e; done)
  | (cases e; simp only [*]; done)
  | ((try simp only [*]); first | exact zR e | exact zS e | exact zU e | exact yG (fun e => by first | (cases e; rfl) | exact zR e | exact zS e | exact zU e) (fun e => by cases e) e)
theorem zmk (g x y) : yK (zaF g x y) := by
 intro call t h h' v h2 e _;unfold zaF at e ⊢
 (repeat' split at e) <;> first
  | (cases e; done)
  | (cases e; simp only [*]; done)
  | ((try simp only [*]); first | exact zR e | exact zS e | exact zU e | exact yG (fun e => by first | (cases e; rfl) | exact zR e | exact zS e | exact zU e) (fun e => by cases e) e)
theorem zj7 (g n x y) : yK (opEq g n x y) := by
 intro call t h h' v h2 e _;unfold opEq at e ⊢
 (repeat' split at e) <;> first
  | (cases e; done)
  | (cases e; simp only [*]; done)
  | ((try simp only [*]); first | exact zR e | exact zS e | exact zU e | exact yG (fun e => by first | (cases e; rfl) | exact zR e | exact zS e | exact zU e) (fun e => by cases e) e)
theorem zed (n x y) : yK (vA n x y) := by
 intro call t h h' v h2 e _;unfold vA at e ⊢
 (repeat' split at e) <;> first
  | (cases e; done)
  | (cases e; simp only [*]; done)
  | ((try simp only [*]); first | exact zR e | exact zS e | exact zU e | exact yG (fun e => by first | (cases e; rfl) | exact zR e | exact zS e | exact zU e) (fun e => by cases e) e)
theorem zee (n x y) : yK (uz n x y) := by
 intro call t h h' v h2 e _;unfold uz at e ⊢
 (repeat' split at e) <;> first
  | (cases e; done)
  | (cases e; simp only [*]; done)
  | ((try simp only [*]); first | exact zR e | exact zS e | exact zU e | exact yG (fun e => by first | (cases e; rfl) | exact zR e | exact zS e | exact zU e) (fun e => by cases e) e)
theorem zmm (x) : yK (zaG x) := by
 intro call t h h' v h2 e _;unfold zaG at e ⊢
 (repeat' split at e) <;> first
  | (cases e; done)
  | (cases e; simp only [*]; done)
  | ((try simp only [*]); first | exact zR e | exact zS e | exact zU e | exact yG (fun e => by first | (cases e; rfl) | exact zR e | exact zS e | exact zU e) (fun e => by cases e) e)
theorem zmn (x) : yK (zaH x) := by
 intro call t h h' v h2 e _;unfold zaH at e ⊢
 (repeat' split at e) <;> first
  | (cases e; done)
  | (cases e; simp only [*]; done)
  | ((try simp only [*]); first | exact zR e | exact zS e | exact zU e | exact yG (fun e => by first | (cases e; rfl) | exact zR e | exact zS e | exact zU e) (fun e => by cases e) e)
theorem zj8 (k x) : yK (uF k x) := by
 intro call t h h' v h2 e _;unfold uF at e ⊢
 (repeat' split at e) <;> first
  | (cases e; done)
  | (cases e; simp only [*]; done)
  | ((try simp only [*]); first | exact zR e | exact zS e | exact zU e | exact yG (fun e => by first | (cases e; rfl) | exact zR e | exact zS e | exact zU e) (fun e => by cases e) e)
theorem zj1 (f x) : yK (uA f x) := by
 intro call t h h' v h2 e _;unfold uA at e ⊢
 (repeat' split at e) <;> first
  | (cases e; done)
  | (cases e; simp only [*]; done)
  | ((try simp only [*]); first | exact zR e | exact zS e | exact zU e | exact yG (fun e => by first | (cases e; rfl) | exact zR e | exact zS e | exact zU e) (fun e => by cases e) e)
theorem zfv (x lo hi) : yK (xi x lo hi) := by
 intro call t h h' v h2 e _;unfold xi at e ⊢
 (repeat' split at e) <;> first
  | (cases e; done)
  | (cases e; simp only [*]; done)
  | ((try simp only [*]); first | exact zR e | exact zS e | exact zU e | exact yG (fun e => by first | (cases e; rfl) | exact zR e | exact zS e | exact zU e) (fun e => by cases e) e)
theorem zj6 (x o) : yK (uE x o) := by
 intro call t h h' v h2 e _;unfold uE at e ⊢
 (repeat' split at e) <;> first
  | (cases e; done)
  | (cases e; simp only [*]; done)
  | ((try simp only [*]); first | exact zR e | exact zS e | exact zU e | exact yG (fun e => by first | (cases e; rfl) | exact zR e | exact zS e | exact zU e) (fun e => by cases e) e)
theorem zii (x o n) : yK (wL x o n) := by
 intro call t h h' v h2 e _;unfold wL at e ⊢
 (repeat' split at e) <;> first
  | (cases e; done)
  | (cases e; simp only [*]; done)
  | ((try simp only [*]); first | exact zR e | exact zS e | exact zU e | exact yG (fun e => by first | (cases e; rfl) | exact zR e | exact zS e | exact zU e) (fun e => by cases e) e)
theorem zmo (st x i) : yK (zaK st x i) := by
 intro call t h h' v h2 e _;unfold zaK at e ⊢
 (repeat' split at e) <;> first
  | (cases e; done)
  | (cases e; simp only [*]; done)
  | ((try simp only [*]); first | exact zR e | exact zS e | exact zU e | exact yG (fun e => by first | (cases e; rfl) | exact zR e | exact zS e | exact zU e) (fun e => by cases e) e)
theorem zig (l st x i) : yK (wJ l st x i) := by
 intro call t h h' v h2 e _;unfold wJ at e ⊢
 (repeat' split at e) <;> first
  | (cases e; done)
  | (cases e; simp only [*]; done)
  | ((try simp only [*]); first | exact zR e | exact zS e | exact zU e | exact yG (fun e => by first | (cases e; rfl) | exact zR e | exact zS e | exact zU e) (fun e => by cases e) e)
theorem zih (l st n x i) : yK (wK l st n x i) := by
 intro call t h h' v h2 e _;unfold wK at e ⊢
 (repeat' split at e) <;> first
  | (cases e; done)
  | (cases e; simp only [*]; done)
  | ((try simp only [*]); first | exact zR e | exact zS e | exact zU e | exact yG (fun e => by first | (cases e; rfl) | exact zR e | exact zS e | exact zU e) (fun e => by cases e) e)
theorem zif (x i) : yK (wI x i) := by
 intro call t h h' v h2 e _;unfold wI at e ⊢
 (repeat' split at e) <;> first
  | (cases e; done)
  | (cases e; simp only [*]; done)
  | ((try simp only [*]); first | exact zR e | exact zS e | exact zU e | exact yG (fun e => by first | (cases e; rfl) | exact zR e | exact zS e | exact zU e) (fun e => by cases e) e)
theorem zef (x i) : yK (xb x i) := by
 intro call t h h' v h2 e _;unfold xb at e ⊢
 (repeat' split at e) <;> first
  | (cases e; done)
  | (cases e; simp only [*]; done)
  | ((try simp only [*]); first | exact zR e | exact zS e | exact zU e | exact yG (fun e => by first | (cases e; rfl) | exact zR e | exact zS e | exact zU e) (fun e => by cases e) e)
theorem zj3 (x) : yK (uC x) := by
 intro call t h h' v h2 e _;unfold uC at e ⊢
 (repeat' split at e) <;> first
  | (cases e; done)
  | (cases e; simp only [*]; done)
  | ((try simp only [*]); first | exact zR e | exact zS e | exact zU e | exact yG (fun e => by first | (cases e; rfl) | exact zR e | exact zS e | exact zU e) (fun e => by cases e) e)
theorem zj5 (x) : yK (uD x) := by
 intro call t h h' v h2 e _;unfold uD at e ⊢
 (repeat' split at e) <;> first
  | (cases e; done)
  | (cases e; simp only [*]; done)
  | ((try simp only [*]); first | exact zR e | exact zS e | exact zU e | exact yG (fun e => by first | (cases e; rfl) | exact zR e | exact zS e | exact zU e) (fun e => by cases e) e)
theorem zaP (b x xs) : yK (yT b x xs) := by
 intro call t h h' v h2 e _;unfold yT at e ⊢
 (repeat' split at e) <;> first
  | (cases e; done)
  | (cases e; simp only [*]; done)
  | ((try simp only [*]); first | exact zR e | exact zS e | exact zU e | exact yG (fun e => by first | (cases e; rfl) | exact zR e | exact zS e | exact zU e) (fun e => by cases e) e)
theorem zid (st x lo hi mx) : yK (wF st x lo hi mx) := by
 intro call t h h' v h2 e _;unfold wF at e ⊢;split at e
 ·(try simp only [*]); exact zhV e
 ·(try simp only [*]); exact yG zdN zi2 e
 ·cases e
theorem zb1 (n x y) : yK (wG n x y) := by
 intro call t h h' v h2 e _;unfold wG at e ⊢
 (repeat' split at e) <;> first | (cases e; done) | (cases e; (try simp only [*]); done) | (cases e; rfl)
theorem zfw (l st x lo hi mx) : yK (wu l st x lo hi mx) := by
 intro call t h h' v h2 e _;unfold wu at e ⊢;split at e
 ·(try simp only [*]); exact zdN e
 ·cases e
theorem zml (x) : yK (zcU x) := by
 intro call t h h' v h2 e hs;unfold zcU at e ⊢;split at e
 ·cases e; rfl
 ·rename_i b o hx;cases hb : h.t.get b with
  | none => rw [hb] at e; cases e
  | some ob =>
   rw [hb] at e;rw [hs b ob hb];cases ob with
   | tcells cs ty var => exact yG (fun e => by cases e; rfl) (fun e => by cases e) e
   | _ => cases e
 ·cases e
theorem zmj (u n x) : yK (zcT u n x) := by
 intro call t h h' v h2 e hs;unfold zcT at e ⊢;split at e
 ·cases e; rfl
 ·rename_i b o hx;refine yG (fun e => ?_) (fun e => by cases e) e
  cases hb : h.t.get b with
  | none => rw [hb] at e; cases e
  | some ob =>
   rw [hb] at e;rw [hs b ob hb];cases ob with
   | tcells cs ty var => exact yG (fun e => by cases e; rfl) (fun e => by cases e) e
   | _ => cases e
 ·cases e
theorem zmz {n : Option Nat} {h h' h2 : AHeap} {off : Nat} {o : AObj} {v : AVal} (e : loadAt n h off (some o) = some (v, h2)) : loadAt n h' off (some o) = some (v, h') := by
 cases o with
 | cells cs st => exact zU (e : part n cs off h = some (v, h2))
 | tcells cs ty var => exact zU (e : part n cs off h = some (v, h2))
 | ro x f =>
  have e : zd0 n f off h = some (v, h2) := e;show zd0 n f off h' = some (v, h');unfold zd0 at e ⊢;cases n with
  | none => exact zR e
  | some n => exact zS e
 | _ => cases e
theorem zgA {h h' h2 : AHeap} {c : Option (List CVal)} {v : AVal} (e : retS h c = some (v, h2)) : retS h' c = some (v, h') := by
 unfold retS at e ⊢
 (repeat' split at e) <;> first | (cases e; done) | (cases e; rfl)
theorem zmr (x) : yK (j8 x) := by
 intro call t h h' v h2 e hs;unfold j8 at e ⊢;split at e
 ·cases e; rfl
 ·rename_i b off len cap ex hx;cases hb : h.t.get b with
  | none => rw [hb] at e; cases e
  | some o =>
   rw [hb] at e;rw [hs b o hb];cases o with
   | cells cs st => exact zgA e
   | ro x f => exact zgA e
   | tcells cs ty var => exact zgA e
   | void => exact zgA e
   | _ => cases e
 ·cases e
theorem zj2 (n x) : yK (uB n x) := by
 intro call t h h' v h2 e hs;unfold uB at e ⊢;split at e
 ·rename_i b off hx
  try simp only [hx]
  cases hb : h.t.get b with
  | none => rw [hb] at e; cases e
  | some o => rw [hb] at e; rw [hs b o hb]; exact zmz e
 ·exact yG zR (fun e => by cases e) e
 ·cases e
theorem zo3 {h h' : AHeap} (hs : Sbh h h') {m : AVal} {es : List (SVal × SVal)} (e : mapOf h m = some es) : mapOf h' m = some es := by
 unfold mapOf at e ⊢;split at e
 ·exact e
 ·rename_i b;split at e
  ·rename_i es' hb;rw [hs b _ hb];exact e
  ·cases e
 ·cases e
theorem zfy (q z ok m k) : yK (xW q z ok m k) := by
 intro call t h h' v h2 e hs;unfold xW at e ⊢;split at e
 ·rename_i es k' hm hk;rw [zo3 hs hm, hk];simp only;refine yG (fun e => by cases e) (fun e => ?_) e
  split at e
  ·rename_i r hr; cases e; simp only
  ·cases e
 ·cases e
theorem zj4 (x) : yK (jp x) := by
 intro call t h h' v h2 e hs;unfold jp at e ⊢;split at e
 ·cases e; simp only [*]
 ·rename_i b hx
  try rw [hx]
  try simp only
  split at e
  ·rename_i es hb;rw [hs b _ hb];cases e; rfl
  ·cases e
 ·cases e
theorem zmq (P : Program) (o : Op) (hq : yq P o = true) : yK (cOp P o) := by
 cases o with
 | move x => exact zgV zfx
 | assign x => exact zgV zfx
 | pick c x y => exact zg fun _ => zg fun _ => zg fun _ => zA (zj0 _ _ _)
 | build t parts =>
  unfold cOp;simp only;split
  ·exact xc (zg fun _ => zA (zb2 _ _)) zG
  ·split
   ·exact zg fun _ => zA (zb2 _ _)
   ·exact zG
  ·exact zG
 | load t x => exact zg fun _ => zg fun _ => zA (zj2 _ _)
 | nilCheck x => exact zg fun _ => zA (zie _)
 | binOp op t x y u =>
  unfold cOp;simp only;split
  ·split
   ·exact zg fun _ => zg fun _ => zA (zb0 _ _ _)
   ·exact zg fun _ => zg fun _ => zA (zb0 _ _ _)
   ·exact zg fun _ => zg fun _ => zA (zmp _ _ _)
  ·exact zg fun _ => zg fun _ => zA (zmk _ _ _)
  ·split
   ·exact zg fun _ => zg fun _ => zA (zed _ _ _)
   ·exact zg fun _ => zg fun _ => zA (zed _ _ _)
   ·exact zG
  ·refine xc ?_ zG;split
   ·exact zg fun _ => zg fun _ => zA (zb1 _ _ _)
   ·exact zg fun _ => zg fun _ => zA (zb1 _ _ _)
   ·exact zG
  ·split
   ·exact zg fun _ => zg fun _ => zA (zee _ _ _)
   ·exact zg fun _ => zg fun _ => zA (zee _ _ _)
   ·exact zG
  ·refine xc zG ?_;split
   ·exact zg fun _ => zg fun _ => zg fun _ => zA (zj7 _ _ _ _)
   ·exact zg fun _ => zg fun _ => zg fun _ => zA (zj7 _ _ _ _)
   ·exact zG
  ·exact zG
 | unOp u t x =>
  cases u with
  | not => exact zg fun _ => zA (zmm _)
  | neg => exact zg fun _ => zA (zmn _)
  | _ => exact zG
 | convert a b x =>
  unfold cOp;simp only;split
  ·exact zg fun _ => zA (zj8 _ _)
  ·rename_i h1 h2;simp only [yq, zkv, zc5, h1, h2] at hq;cases hq
  ·exact xc (zg fun _ => zA (zmr _)) zG
  ·exact xc (zg fun _ => zA (zml _)) zG
  ·exact xc (zg fun _ => zA (zmj _ _ _)) zG
  ·exact zG
 | makeFunc f first captured =>
  cases f with
  | func f => exact xc (zg fun _ => zA (zj1 _ _)) zG
  | _ => exact zG
 | slice t x lo hi mx =>
  unfold cOp;simp only;split
  ·split
   ·exact xc zG (zg fun _ => zg fun _ => zg fun _ => zg fun _ => zA (zid _ _ _ _ _))
   ·exact zG
  ·split
   ·exact xc zG (zg fun _ => zg fun _ => zg fun _ => zg fun _ => zA (zfw _ _ _ _ _ _))
   ·exact zG
  ·exact xc zG (zg fun _ => zg fun _ => zg fun _ => zA (zfv _ _ _))
  ·exact zG
 | fieldAddr t x f =>
  unfold cOp;simp only;split
  ·split
   ·split
    ·exact xc zG (zg fun _ => zA (zj6 _ _))
    ·exact zG
   ·exact zG
  ·exact zG
 | field t x f =>
  unfold cOp;simp only;split
  ·split
   ·exact zg fun _ => zg fun _ => zA (zii _ _ _)
   ·exact zG
  ·exact zG
 | indexAddr t x i =>
  unfold cOp;simp only;split
  ·split
   ·exact zg fun _ => zg fun _ => zA (zmo _ _ _)
   ·exact zG
  ·split
   ·exact zg fun _ => zg fun _ => zA (zig _ _ _ _)
   ·exact zG
  ·exact zG
 | index t x i =>
  unfold cOp;simp only;split
  ·split
   ·exact zg fun _ => zg fun _ => zg fun _ => zA (zih _ _ _ _ _)
   ·exact zG
  ·exact zg fun _ => zg fun _ => zA (zif _ _)
  ·exact zG
 | lookup t m k ok =>
  unfold cOp;simp only;split
  ·exact zg fun _ => zg fun _ => zg fun _ => zg fun _ => zA (zfy _ _ _ _ _)
  ·exact zG
 | extract x i => exact zg fun _ => zA (zef _ _)
 | call c =>
  obtain ⟨callee, args, ts⟩ := c;cases callee with
  | builtin b =>
   cases b with
   | len =>
    unfold cOp;simp only;split
    ·split
     ·exact zg fun _ => zA (zj3 _)
     ·exact zg fun _ => zA (zj5 _)
     ·exact zg fun _ => zA (zj4 _)
     ·exact zA (zfx _)
     ·exact zG
    ·exact zG
   | max =>
    unfold cOp;simp only;split
    ·exact zA (zaP _ _ _)
    ·exact zG
   | min =>
    unfold cOp;simp only;split
    ·exact zA (zaP _ _ _)
    ·exact zG
   | _ => cases hq
  | _ => cases hq
 | _ => cases hq
section
variable {P : Program} {t : Tr AVal} {call : zh}
def zp2 (f : OpFn) (call : zh) (t : Tr AVal) (nt : Nat) : Prop := ∃ (obj : AObj) (vf : BN → CVal), (∀ hh : AHeap, f call t hh = some (.s (.one (vf hh.n)), hh.new obj)) ∧
 (∀ (φ φ' : Phi) b b', φ b = φ' b' → zi φ (vf b) = zi φ' (vf b')) ∧ (∀ φ n b, okB φ n b → wfC φ n (vf b)) ∧ ∀ φ n arr, TRel φ nt n t arr → OWf φ n obj
theorem u6 (hh : AHeap) (o : AObj) (g : BN → CVal) : newB hh o g = some (.s (.one (g hh.n)), hh.new o) := by cases hh; rfl
theorem zap (φ φ' : Phi) (b b' : BN) (h : φ b = φ' b') : zi φ (.ptr b 0) = zi φ' (.ptr b' 0) := by simp only [zi, adr, h]
theorem zdP (l c : Nat) (φ φ' : Phi) (b b' : BN) (h : φ b = φ' b') : zi φ (.slc b 0 l c true) = zi φ' (.slc b' 0 l c true) := by simp only [zi, adr, h, cond_true]
theorem zaC {α : Type} {a : Option α} {g : α → Option OpFn} {h h2 : AHeap} {v : AVal} (e : zV (a >>= g) call t h = some (v, h2)) : ∃ x, a = some x ∧ zV (g x) call t h = some (v, h2) := by
 cases a with
 | none => cases e
 | some x => exact ⟨x, rfl, e⟩
theorem zgW {nt : Nat} {o : Op} (hm : mkOp o = true) {h h2 : AHeap} {v : AVal} (e : cOp P o call t h = some (v, h2)) : zp2 (cOp P o) call t nt := by
 cases o with
 | alloc ty =>
  cases hz : zZ P ty with
  | none => simp only [cOp, hz] at e; cases hb : kj P ty <;> rw [hb] at e <;> cases e
  | some z =>
   cases hb : kj P ty with
   | false =>
    refine ⟨.cells z.cells 0, fun b => .ptr b 0, fun hh => ?_, zap, fun φ n b hb => hb, fun φ n arr _ => ?_⟩
    ·simp only [cOp, hz, hb]; show zaL z.cells call t hh = _; exact u6 _ _ _
    ·obtain ⟨_, _, _, _, _, hwz⟩ := yH (φ := φ) hz;exact fun c hc => yS (Nat.zero_le _) (hwz c hc)
   | true =>
    refine ⟨.tcells z.cells ty true, fun b => .ptr b 0, fun hh => ?_, zap, fun φ n b hb => hb, fun φ n arr _ => ?_⟩
    ·simp only [cOp, hz, hb]; show zab ty z.cells call t hh = _; exact u6 _ _ _
    ·obtain ⟨_, _, _, _, _, hwz⟩ := yH (φ := φ) hz;exact fun c hc => yS (Nat.zero_le _) (hwz c hc)
 | box ty x =>
  cases hx : cOpd x with
  | none => simp only [cOp, hx] at e; cases e
  | some f =>
   simp only [cOp, hx] at e;have e : zby f call t h = some (v, h2) := e;unfold zby at e;split at e
   ·rename_i u hu;refine ⟨.cells u.cells 0, fun b => .ptr b 0, fun hh => ?_, zap, fun φ n b hb => hb, fun φ n arr T => ?_⟩
    ·simp only [cOp, hx];show zby f call t hh = _;unfold zby;rw [hu];exact u6 _ _ _
    ·have := (zl (a := ⟨arr, []⟩) T hx).2;rw [hu] at this;exact wA this
   ·cases e
 | buildSlice ty len parts =>
  simp only [cOp] at e;split at e
  ·rename_i el hu;split at e
   ·rename_i i hi;cases hle : Nat.ble (len * i.size) 16777216 with
    | false => rw [hle] at e; cases e
    | true =>
     rw [hle] at e;simp only [cond_true] at e;split at e
     ·rename_i zs hzs;cases hq : Nat.beq (len * i.size) 0 || Nat.beq zs.length i.size with
      | false => rw [hq] at e; cases e
      | true =>
       rw [hq] at e;simp only [cond_true] at e;obtain ⟨r, hr, e⟩ := zaC e;have e : xX i.size len (repl zs len) r call t h = some (v, h2) := e;unfold xX at e;split at e
       ·rename_i cs hc;refine ⟨.cells cs i.size, fun b => .slc b 0 len len true, fun hh => ?_, zdP len len, fun φ n b hb => ⟨hb, (fun hh => by cases hh), fun _ => LzB _⟩, fun φ n arr T => ?_⟩
        ·simp only [cOp, hu, hi, hle, cond_true, hzs, hq, hr];show xX i.size len (repl zs len) r call t hh = _;unfold xX;rw [hc];exact u6 _ _ _
        ·have T' : TRel φ nt (AHeap.n ⟨bn n, .nil⟩).toNat t (Act.tmps ⟨arr, []⟩) := by
          show TRel φ nt (bn n).toNat t arr;rw [zO]; exact T
         obtain ⟨hp, hw⟩ := xu T' i.size hr;have hwz : ∀ c ∈ repl zs len, wfC φ (AHeap.n ⟨bn n, .nil⟩).toNat c := by
          refine jw (fun c hc => ?_) len
          cases h0 : Nat.beq (len * i.size) 0 with
          | true => rw [h0] at hzs; cases hzs; cases hc
          | false =>
           rw [h0] at hzs;simp only [cond_false] at hzs;cases hz : zZ P el with
           | none => rw [hz] at hzs; cases hzs
           | some z =>
            rw [hz] at hzs;cases hzs;obtain ⟨_, _, _, _, _, hwz⟩ := yH (φ := φ) hz;exact yS (Nat.zero_le _) (hwz c hc)
         have hf := (vL hp hwz hw hc).2.1;intro c hc;have := hf c hc
         rwa [show (AHeap.n ⟨bn n, .nil⟩).toNat = n from zO n] at this
       ·cases e
     ·cases e
   ·cases e
  ·cases e
 | makeMap ty r =>
  cases r with
  | some r => cases e
  | none =>
   refine ⟨.map [], fun b => .map b, fun hh => ?_, fun φ φ' b b' h => by simp only [zi, h], fun φ n b hb => hb, fun φ n arr _ p hp => by cases hp⟩
   exact u6 _ _ _
 | makeSlice ty l c =>
  simp only [cOp] at e;split at e
  ·rename_i el hu;split at e
   ·rename_i i z hi hz;cases hq : Nat.beq z.cells.length i.size && !Nat.beq i.size 0 with
    | false => rw [hq] at e; cases e
    | true =>
     rw [hq] at e;simp only [cond_true] at e;obtain ⟨fl, hl, e⟩ := zaC e;obtain ⟨fc, hc, e⟩ := zaC e;have e : xp i.size z.cells i.bytes fl fc call t h = some (v, h2) := e;unfold xp at e;split at e
     ·rename_i x y hx hy;cases hb : Nat.ble x y && Nat.ble y 1073741824 && Nat.ble (i.bytes * y) 281474976710656 with
      | false => rw [hb] at e; cases e
      | true =>
       obtain ⟨hb1, _⟩ := and2 hb;obtain ⟨hb1, _⟩ := and2 hb1;refine ⟨.cells (repl z.cells y) i.size, fun b => .slc b 0 x y true, fun hh => ?_, zdP x y, fun φ n b hb => ⟨hb, (fun hh => by cases hh), fun _ => zQ hb1⟩, fun φ n arr T => ?_⟩
       ·simp only [cOp, hu, hi, hz, hq, cond_true, hl, hc];show xp i.size z.cells i.bytes fl fc call t hh = _;unfold xp;rw [hx, hy];simp only [hb, cond_true];exact u6 _ _ _
       ·obtain ⟨_, _, _, _, _, hwz⟩ := yH (φ := φ) hz;exact jw (fun c hc => yS (Nat.zero_le _) (hwz c hc)) y
     ·cases e
   ·cases e
  ·cases e
 | _ => cases hm
end
end Go.CE
end
noncomputable section
namespace Go.CE
open Go.RowKit
def gdv (g : GE) : Option BN × AVal := (g.d.rop.dst, g.v)
def hAt : AHeap → List GE → Nat → AHeap
 | h, _, 0 => h
 | h, [], _ + 1 => h
 | _, g :: l, j + 1 => hAt g.ha l j
theorem zdc : ∀ (l : List GE) (h : AHeap) (j : Nat) (g : GE), l[j]? = some g → hAt h l (j + 1) = g.ha
 | [], _, j, g, hj => by simp at hj
 | g0 :: l, h, 0, g, hj => by simp only [List.getElem?_cons_zero, Option.some.injEq] at hj; subst hj; cases l <;> rfl
 | g0 :: l, h, j + 1, g, hj => by simp only [List.getElem?_cons_succ] at hj; exact zdc l g0.ha j g hj
theorem zhk (call : zh) (n0 : Nat) : ∀ (ds : List GOper) (i : Nat) (t : Tr AVal) (h : AHeap) (l : List GE) (t2 : Tr AVal) (h2 : AHeap), evG call n0 i ds t h = some (l, t2, h2) →
  l.map (·.d) = ds ∧ t2 = frL (fun _ => true) 0 (l.map gdv) t ∧ h2 = hAt h l l.length ∧
  ∀ j g, l[j]? = some g → g.tr = vW (frL (fun k => decide (k < j)) 0 (l.map gdv) t) g.d.looks ∧ g.hb = hAt h l j ∧ stepG call n0 (i + j) g.d g.tr g.hb = some (g.v, g.ha)
 | [], i, t, h, l, t2, h2, e => by
  cases e;exact ⟨rfl, rfl, rfl, fun j g hj => by simp at hj⟩
 | d :: ds, i, t, h, l, t2, h2, e => by
  unfold evG at e;split at e
  ·rename_i v0 h0 hv0;cases hr : evG call n0 (Nat.succ i) ds (setT t v0 d.rop.dst) h0 with
   | none => rw [hr] at e; cases e
   | some p =>
    obtain ⟨l', t', h'⟩ := p;rw [hr] at e;simp only [zrt, Option.some.injEq, Prod.mk.injEq] at e;obtain ⟨rfl, rfl, rfl⟩ := e;obtain ⟨g1, g2, g3, g4⟩ := zhk call n0 ds _ _ _ l' _ _ hr;have hfr : ∀ (L : Nat → Bool), frL L 0 (((⟨d, vW t d.looks, v0, h, h0⟩ : GE) :: l').map gdv) t = frL (fun k => L (k + 1)) 0 (l'.map gdv) (bif L 0 then setT t v0 d.rop.dst else t) := by
     intro L;simp only [List.map_cons];show frL L 0 ((d.rop.dst, v0) :: l'.map gdv) t = _;rw [zhe, za5]
    refine ⟨by simp [g1], by rw [hfr, g2]; rfl, g3, ?_⟩
    intro j g hj;cases j with
    | zero =>
     simp only [List.getElem?_cons_zero, Option.some.injEq] at hj;subst hj;refine ⟨?_, rfl, hv0⟩;rw [hfr];simp only [Nat.not_lt_zero, decide_false, cond_false]
     congr 1
     have : ∀ (r : List (Option BN × AVal)) (i : Nat) (t : Tr AVal), frL (fun _ => false) i r t = t := by
      intro r
      induction r with
      | nil => intro i t; rfl
      | cons p r ih => intro i t; obtain ⟨d, v⟩ := p; unfold frL; exact ih _ _
     exact (this _ _ _).symm
    | succ j =>
     simp only [List.getElem?_cons_succ] at hj;obtain ⟨k1, k2, k3⟩ := g4 j g hj;refine ⟨?_, k2, ?_⟩
     ·rw [hfr, k1]; simp
     ·rw [show i + (j + 1) = Nat.succ i + j by omega]; exact k3
  ·cases e
theorem zaf (es : List Bool) : ∀ i, ce (fun _ => false) i es = 0 := by
 induction es with
 | nil => intro i; rfl
 | cons e es ih => intro i; unfold ce; simp [ih]
theorem zk4 (L : Nat → Bool) (e : Bool) (es : List Bool) : ce L 0 (e :: es) = (bif L 0 && e then 1 else 0) + ce (fun k => L (k + 1)) 0 es := by
 rw [zk5, zdv];cases (L 0 && e) <;> simp <;> omega
theorem zfJ : ∀ (l : List GE) (j : Nat) (g : GE), l[j]? = some g → g.d.eff = true → (hsG l)[ce (fun k => decide (k < j)) 0 (l.map (·.d.eff))]? = some g.ha
 | [], j, g, hj, _ => by simp at hj
 | g0 :: l, 0, g, hj, he => by
  simp only [List.getElem?_cons_zero, Option.some.injEq] at hj;subst hj;have hz : ce (fun k => decide (k < 0)) 0 ((g0 :: l).map (·.d.eff)) = 0 := by
   rw [show (fun k => decide (k < 0)) = (fun _ : Nat => false) from funext fun k => by simp, zaf]
  rw [hz];unfold hsG;rw [he];rfl
 | g0 :: l, j + 1, g, hj, he => by
  simp only [List.getElem?_cons_succ] at hj;have ih := zfJ l j g hj he;simp only [List.map_cons];rw [zk4];simp only [Nat.zero_lt_succ, decide_true, Bool.true_and, Nat.succ_lt_succ_iff];unfold hsG;cases h0 : g0.d.eff with
  | true => simp only [cond_true]; rw [Nat.add_comm 1, List.getElem?_cons_succ]; exact ih
  | false => simp only [cond_false, Nat.zero_add]; exact ih
theorem zmG (g : GE) (l : List GE) : hsG (g :: l) = bif g.d.eff then g.ha :: hsG l else hsG l := rfl
def obG (n0 : Nat) (l : List GE) (m : Nat) : Option AObj :=
 match l[m]? with
 | some g => bif g.d.mkb then g.ha.t.get (nm n0 m) else none
 | none => none
def cmG (l : List GE) (m : Nat) : Nat := ce (fun k => decide (k < m)) 0 (l.map (·.d.eff))
theorem zdr (l : List GE) : cmG l 0 = 0 := by
 unfold cmG;rw [show (fun k => decide (k < 0)) = (fun _ : Nat => false) from funext fun k => by simp, zaf]
theorem zds (g : GE) (l : List GE) (m : Nat) : cmG (g :: l) (m + 1) = (bif g.d.eff then 1 else 0) + cmG l m := by
 unfold cmG;simp only [List.map_cons];rw [zk4];simp
theorem zcW {n0 : Nat} : ∀ (l : List GE) (c i : Nat) (x : Nat × Nat × AObj), (∀ g ∈ l, g.d.mkb = true → g.d.eff = false) → x ∈ mksG n0 c i l →
  ∃ m, x.2.1 = i + m ∧ (∃ g, l[m]? = some g ∧ g.d.mkb = true ∧ g.ha.t.get (nm n0 (i + m)) = some x.2.2) ∧ x.1 = c + cmG l m
 | [], c, i, x, _, hx => by cases hx
 | g :: l, c, i, x, hall, hx => by
  have step : ∀ c', x ∈ mksG n0 c' (Nat.succ i) l → c' = c + (bif g.d.eff then 1 else 0) → ∃ m, x.2.1 = i + m ∧ (∃ g', (g :: l)[m]? = some g' ∧ g'.d.mkb = true ∧ g'.ha.t.get (nm n0 (i + m)) = some x.2.2) ∧ x.1 = c + cmG (g :: l) m := by
   intro c' hx' hc;obtain ⟨m, k1, ⟨g', k2, k3, k4⟩, k5⟩ := zcW l c' (Nat.succ i) x (fun g' hg' => hall g' (by simp [hg'])) hx'
   refine ⟨m + 1, by omega, ⟨g', by simpa using k2, k3, by rw [show i + (m + 1) = Nat.succ i + m by omega]; exact k4⟩, ?_⟩
   rw [k5, zds, hc];omega
  unfold mksG at hx;cases hm : g.d.mkb with
  | false =>
   rw [hm] at hx;simp only [cond_false] at hx;refine step _ hx ?_;cases g.d.eff <;> rfl
  | true =>
   have he := hall g (by simp) hm
   rw [hm] at hx;simp only [cond_true] at hx;split at hx
   ·rename_i o ho;rcases List.mem_cons.1 hx with rfl | hx
    ·exact ⟨0, rfl, ⟨g, rfl, hm, ho⟩, by rw [zdr]; rfl⟩
    ·exact step c hx (by rw [he]; rfl)
   ·exact step c hx (by rw [he]; rfl)
theorem za3 {n0 k : Nat} : ∀ (l : List (Nat × Nat × AObj)) (t : Tr AObj) (b : BN), (jI n0 k l t).get b = t.get b ∨ ∃ x ∈ l, k ≤ x.1 ∧ b = nm n0 x.2.1 ∧ (jI n0 k l t).get b = some x.2.2
 | [], t, b => .inl rfl
 | (c, j, o) :: l, t, b => by
  unfold jI;rcases za3 l (bif Nat.ble k c then t.set (bn (Nat.add n0 j)) o else t) b with h | ⟨x, hx, h1, h2, h3⟩
  ·rw [h];cases hk : Nat.ble k c with
   | false => exact .inl rfl
   | true =>
    simp only [cond_true];by_cases hb : b = bn (Nat.add n0 j)
    ·subst hb;exact .inr ⟨(c, j, o), by simp, zQ hk, rfl, zx _ _ _⟩
    ·exact .inl (zn _ _ _ _ hb)
  ·exact .inr ⟨x, by simp [hx], h1, h2, h3⟩
end Go.CE
end
section
namespace Go.CE
open Go.RowKit
theorem zda : ∀ (l : List GE) (k : Nat) (h : AHeap), (hsG l)[k]? = some h → ∃ j g, l[j]? = some g ∧ g.d.eff = true ∧ cmG l j = k ∧ g.ha = h
 | [], k, h, e => by simp [hsG] at e
 | g :: l, k, h, e => by
  rw [zmG] at e;cases he : g.d.eff with
  | false =>
   rw [he] at e;obtain ⟨j, g', k1, k2, k3, k4⟩ := zda l k h e;exact ⟨j + 1, g', by simpa using k1, k2, by rw [zds, he, k3]; simp, k4⟩
  | true =>
   rw [he] at e;simp only [cond_true] at e;cases k with
   | zero => simp only [List.getElem?_cons_zero, Option.some.injEq] at e; exact ⟨0, g, rfl, he, zdr _, e⟩
   | succ k =>
    simp only [List.getElem?_cons_succ] at e;obtain ⟨j, g', k1, k2, k3, k4⟩ := zda l k h e;exact ⟨j + 1, g', by simpa using k1, k2, by rw [zds, he, k3]; simp; omega, k4⟩
theorem wN {bs : List Nat} {i : Nat} : ∀ (os : List Oper) (off j' : Nat), j' ∈ yv bs i off os ↔ ∃ j o, os[j]? = some o ∧ j' = off + j ∧ (mkOp o.op && bef bs (off + j) i) = false
 | [], off, j' => by simp [yv]
 | o :: os, off, j' => by
  have ih := wN (bs := bs) (i := i) os (Nat.succ off) j';have tail : (∃ j o', os[j]? = some o' ∧ j' = Nat.succ off + j ∧ (mkOp o'.op && bef bs (Nat.succ off + j) i) = false) ↔ ∃ j o', (o :: os)[j + 1]? = some o' ∧ j' = off + (j + 1) ∧ (mkOp o'.op && bef bs (off + (j + 1)) i) = false := by
   constructor
   ·rintro ⟨j, o', h1, h2, h3⟩
    exact ⟨j, o', by simpa using h1, by omega, by rw [show off + (j + 1) = Nat.succ off + j by omega]; exact h3⟩
   ·rintro ⟨j, o', h1, h2, h3⟩
    exact ⟨j, o', by simpa using h1, by omega, by rw [show Nat.succ off + j = off + (j + 1) by omega]; exact h3⟩
  unfold yv;cases hq : mkOp o.op && bef bs off i with
  | true =>
   simp only [cond_true];rw [ih, tail]
   constructor
   ·rintro ⟨j, o', h1, h2, h3⟩; exact ⟨j + 1, o', h1, h2, h3⟩
   ·rintro ⟨j, o', h1, h2, h3⟩
    cases j with
    | zero => simp only [List.getElem?_cons_zero, Option.some.injEq] at h1; subst h1; rw [Nat.add_zero, hq] at h3; cases h3
    | succ j => exact ⟨j, o', h1, h2, h3⟩
  | false =>
   simp only [cond_false, List.mem_cons];rw [ih, tail]
   constructor
   ·rintro (rfl | ⟨j, o', h1, h2, h3⟩)
    ·exact ⟨0, o, rfl, rfl, by rw [Nat.add_zero]; exact hq⟩
    ·exact ⟨j + 1, o', h1, h2, h3⟩
   ·rintro ⟨j, o', h1, h2, h3⟩
    cases j with
    | zero => exact .inl h2
    | succ j => exact .inr ⟨j, o', h1, h2, h3⟩
theorem qL (P : Program) (nt : Nat) (ops : Array Oper) (bs : List Nat) (es : List Bool) : ∀ (os : List Oper) (i j : Nat), (yW P nt ops bs es i os)[j]? = (os[j]?).map fun o =>
  (⟨yF P nt ops o, (o.looksAt ops).map bn, anchor P o.op, mkOp o.op, ce (fun k => bef bs k (i + j)) 0 es, ce (fun k => !bef bs (i + j) k) 0 es, yv bs (i + j) 0 ops.toList⟩ : GOper)
 | [], i, j => by simp [yW]
 | o :: os, i, 0 => by simp [yW]
 | o :: os, i, j + 1 => by
  simp only [yW, List.getElem?_cons_succ];rw [qL P nt ops bs es os (Nat.succ i) j, show Nat.succ i + j = i + (j + 1) by omega]
structure Spc (n0 N : Nat) (l : List GE) (L : Nat → Bool) (k : Nat) (Hk H : AHeap) : Prop where
 n : H.n.toNat = Hk.n.toNat
 old : ∀ b : BN, (b.toNat < n0 ∨ n0 + N ≤ b.toNat) → H.t.get b = Hk.t.get b
 res : ∀ m, m < N → H.t.get (nm n0 m) = if L m = true then (if k ≤ cmG l m then obG n0 l m else Hk.t.get (nm n0 m)) else none
noncomputable abbrev FG (n0 : Nat) (l : List GE) (k : Nat) (Hk : AHeap) (m : Nat) : Option AObj := if k ≤ cmG l m then obG n0 l m else Hk.t.get (nm n0 m)
theorem zbZ (n0 N : Nat) (b : BN) : (b.toNat < n0 ∨ n0 + N ≤ b.toNat) ∨ ∃ m, m < N ∧ b = nm n0 m := by
 by_cases h : b.toNat < n0 ∨ n0 + N ≤ b.toNat
 ·exact .inl h
 ·exact .inr ⟨b.toNat - n0, by omega, zsZ (by omega)⟩
section
variable {P : Program} {nt : Nat} {call : zh} {ops : Array Oper} {n0 : Nat} {t t2 : Tr AVal} {h0 h2 : AHeap} {l : List GE}
structure Txt (P : Program) (nt : Nat) (call : zh) (ops : Array Oper) (n0 : Nat) (t t2 : Tr AVal) (h0 h2 : AHeap) (l : List GE) : Prop where
 len : l.length = ops.size
 es : l.map (·.d.eff) = ancs P ops.toList
 ent : ∀ (j : Nat) (o : Oper), ops[j]? = some o → ∃ g, l[j]? = some g ∧ g.d = ⟨yF P nt ops o, (o.looksAt ops).map bn, anchor P o.op, mkOp o.op, ce (fun k => bef (befs ops.toList) k j) 0 (ancs P ops.toList), ce (fun k => !bef (befs ops.toList) j k) 0 (ancs P ops.toList), yv (befs ops.toList) j 0 ops.toList⟩
 fr : t2 = frL (fun _ => true) 0 (l.map gdv) t
 fin : h2 = hAt h0 l ops.size
 step : ∀ j g, l[j]? = some g → g.tr = vW (frL (fun k => decide (k < j)) 0 (l.map gdv) t) g.d.looks ∧ g.hb = hAt h0 l j ∧ stepG call n0 j g.d g.tr g.hb = some (g.v, g.ha)
 fresh : ∀ m, m < ops.size → h0.t.get (nm n0 m) = none
theorem zqi (e : evG call n0 0 (wO P nt ops) t h0 = some (l, t2, h2)) (hf : ∀ m, m < ops.size → h0.t.get (nm n0 m) = none) : Txt P nt call ops n0 t t2 h0 h2 l := by
 obtain ⟨g1, g2, g3, g4⟩ := zhk call n0 _ _ _ _ _ _ _ e;have hget : ∀ (j : Nat) (o : Oper), ops[j]? = some o → (wO P nt ops)[j]? = some ⟨yF P nt ops o, (o.looksAt ops).map bn, anchor P o.op, mkOp o.op, ce (fun k => bef (befs ops.toList) k j) 0 (ancs P ops.toList), ce (fun k => !bef (befs ops.toList) j k) 0 (ancs P ops.toList), yv (befs ops.toList) j 0 ops.toList⟩ := by
  intro j o ho;unfold wO;rw [qL, LzA, ho, Nat.zero_add];rfl
 have hlen : (wO P nt ops).length = ops.size := by
  have key : ∀ (os : List Oper) (i : Nat), (yW P nt ops (befs ops.toList) (ancs P ops.toList) i os).length = os.length := by
   intro os
   induction os with
   | nil => intro i; rfl
   | cons o os ih => intro i; simp only [yW, List.length_cons, ih]
  unfold wO;rw [key, Array.length_toList]
 have hll : l.length = ops.size := by rw [← hlen, ← g1, List.length_map]
 refine ⟨hll, ?_, fun j o ho => ?_, g2, by rw [g3, hll], fun j g hj => by have := g4 j g hj; rwa [Nat.zero_add] at this, hf⟩
 ·rw [show (fun x : GE => x.d.eff) = GOper.eff ∘ GE.d from rfl, ← List.map_map, g1]
  have key : ∀ (os : List Oper) (i : Nat), (yW P nt ops (befs ops.toList) (ancs P ops.toList) i os).map GOper.eff = ancs P os := by
   intro os
   induction os with
   | nil => intro i; rfl
   | cons o os ih => intro i; simp only [yW, List.map_cons, ih]; rfl
  exact key _ _
 ·have h1 := hget j o ho;rw [← g1, Lz6] at h1;cases hx : l[j]? with
  | none => rw [hx] at h1; cases h1
  | some g => rw [hx] at h1; exact ⟨g, rfl, by simpa using h1⟩
theorem qa {φ : Phi} {n : Nat} {tr : Tr AVal} {h h2 : AHeap} {a : Act} {v : AVal} {o : Oper} (e : y9 call (yF P nt ops o) tr h = some (v, h2)) (T : TRel φ nt n tr a.tmps) :
  (Region.wanted o (yielded ops a.tmps) = true ∧ cOp P o.op call tr h = some (v, h2)) ∨ (Region.wanted o (yielded ops a.tmps) = false ∧ v = zX ∧ h2 = h) := by
 have key : ∀ hh : AHeap, hh.n.toNat = n → y9 call (yF P nt ops o) tr ⟨hh.n, h.t⟩ = y9 call (yF P nt ops o) tr ⟨hh.n, h.t⟩ → True := fun _ _ _ => trivial
 unfold yF at e;have bad : ∀ {o' : ROper}, o' = ⟨none, yN, none⟩ → y9 call o' tr h = some (v, h2) → False := by
  intro o' ho' e; subst ho'; cases e
 cases hd : inT nt o.dst with
 | false => rw [hd] at e; exact (bad rfl e).elim
 | true =>
  rw [hd] at e;simp only [cond_true] at e;have fin : ∀ g, y9 call ⟨o.dst.map bn, cOp P o.op, g⟩ tr h = some (v, h2) → (want tr g = true ∧ cOp P o.op call tr h = some (v, h2)) ∨ (want tr g = false ∧ v = zX ∧ h2 = h) := by
   intro g e;unfold y9 at e;simp only at e;cases hw : want tr g with
   | false => rw [hw] at e; cases e; exact .inr ⟨rfl, rfl, rfl⟩
   | true => rw [hw] at e; exact .inl ⟨rfl, e⟩
  split at e
  ·rename_i hg;rcases fin none e with hh | ⟨hw, _⟩
   ·exact .inl ⟨by simp [Region.wanted, hg], hh.2⟩
   ·cases hw
  ·rename_i j b hg;split at e
   ·rename_i d hjd;cases hb : Nat.ble (Nat.succ d) nt with
    | false => rw [hb] at e; exact (bad rfl e).elim
    | true =>
     rw [hb] at e;have T' : TRel φ nt (AHeap.n ⟨bn n, .nil⟩).toNat tr a.tmps := by
      show TRel φ nt (bn n).toNat tr a.tmps;rw [zO]; exact T
     have hyd := kQ T' hjd (zQ hb) b;rcases fin (some (bn d, b)) e with ⟨hw, hh⟩ | ⟨hw, hh⟩
     ·exact .inl ⟨by simp only [Region.wanted, hg]; rw [hyd]; exact hw, hh⟩
     ·exact .inr ⟨by simp only [Region.wanted, hg]; rw [hyd]; exact hw, hh⟩
   ·exact (bad rfl e).elim
theorem zmT {tr : Tr AVal} {h h2 : AHeap} {v : AVal} {o : Oper} (e : y9 call (yF P nt ops o) tr h = some (v, h2)) : cOp P o.op call tr h = some (v, h2) ∨ (v = zX ∧ h2 = h) := by
 unfold yF at e;have fin : ∀ (d : Option BN) (f : OpFn) g, y9 call ⟨d, f, g⟩ tr h = some (v, h2) → f call tr h = some (v, h2) ∨ (v = zX ∧ h2 = h) := by
  intro d f g e;unfold y9 at e;simp only at e;cases hw : want tr g with
  | false => rw [hw] at e; cases e; exact .inr ⟨rfl, rfl⟩
  | true => rw [hw] at e; exact .inl e
 have bad : ∀ (g : Option (BN × Bool)), y9 call ⟨none, yN, none⟩ tr h = some (v, h2) → False := fun _ e => by cases e
 cases hd : inT nt o.dst with
 | false => rw [hd] at e; exact (bad none e).elim
 | true =>
  rw [hd] at e;simp only [cond_true] at e;split at e
  ·exact fin _ _ _ e
  ·split at e
   ·rename_i d _;cases hb : Nat.ble (Nat.succ d) nt with
    | false => rw [hb] at e; exact (bad none e).elim
    | true => rw [hb] at e; exact fin _ _ _ e
   ·exact (bad none e).elim
theorem wv {o : Op} (h : mkOp o = true) : anchor P o = false := by simp [anchor, h]
theorem zkm (P : Program) (o : Op) : mkOp o = true ∨ (mkOp o = false ∧ anchor P o = true) ∨ (mkOp o = false ∧ anchor P o = false ∧ yq P o = true) := by
 cases hm : mkOp o with
 | true => exact .inl rfl
 | false =>
  cases hq : yq P o with
  | true => exact .inr (.inr ⟨rfl, by simp [anchor, hm, hq], rfl⟩)
  | false => exact .inr (.inl ⟨rfl, by simp [anchor, hm, hq]⟩)
theorem Txt.made (X : Txt P nt call ops n0 t t2 h0 h2 l) {j : Nat} {o : Oper} {g : GE} (ho : ops[j]? = some o) (hg : l[j]? = some g) (hm : mkOp o.op = true) :
  g.ha.n = g.hb.n ∧ (∀ b, b ≠ nm n0 j → g.ha.t.get b = g.hb.t.get b) ∧ ∃ h', y9 call (yF P nt ops o) g.tr ⟨nm n0 j, g.hb.t⟩ = some (g.v, h') ∧ h'.t = g.ha.t := by
 obtain ⟨g', hg', hd⟩ := X.ent j o ho;cases hg.symm.trans hg';obtain ⟨_, _, hs⟩ := X.step j g hg;unfold stepG at hs;rw [hd] at hs;simp only [hm, cond_true] at hs;split at hs
 ·rename_i v h' he;simp only [Option.some.injEq, Prod.mk.injEq] at hs;obtain ⟨rfl, hs⟩ := hs;rw [← hs];refine ⟨rfl, fun b hb => ?_, h', he, rfl⟩
  rcases zmT he with hc | ⟨_, rfl⟩
  ·obtain ⟨obj, vf, hsh, _⟩ := zgW (nt := nt) hm hc;have := hsh ⟨nm n0 j, g.hb.t⟩;rw [hc] at this;simp only [Option.some.injEq, Prod.mk.injEq] at this;rw [this.2];exact zn _ _ _ _ hb
  ·rfl
 ·cases hs
theorem Txt.quiet (X : Txt P nt call ops n0 t t2 h0 h2 l) {j : Nat} {o : Oper} {g : GE} (ho : ops[j]? = some o) (hg : l[j]? = some g) (hm : mkOp o.op = false) (ha : anchor P o.op = false) :
  g.ha = g.hb ∧ ∃ h', y9 call (yF P nt ops o) g.tr ⟨g.hb.n, delH n0 (yv (befs ops.toList) j 0 ops.toList) g.hb.t⟩ = some (g.v, h') := by
 obtain ⟨g', hg', hd⟩ := X.ent j o ho;cases hg.symm.trans hg';obtain ⟨_, _, hs⟩ := X.step j g hg;unfold stepG at hs;rw [hd] at hs;simp only [hm, ha, cond_false] at hs;split at hs
 ·rename_i v h' he;simp only [Option.some.injEq, Prod.mk.injEq] at hs;obtain ⟨rfl, hs⟩ := hs;exact ⟨hs.symm, h', he⟩
 ·cases hs
theorem Txt.anchor (X : Txt P nt call ops n0 t t2 h0 h2 l) {j : Nat} {o : Oper} {g : GE} (ho : ops[j]? = some o) (hg : l[j]? = some g) (hm : mkOp o.op = false) (ha : anchor P o.op = true) :
  ∃ h', y9 call (yF P nt ops o) g.tr ⟨g.hb.n, delH n0 (yv (befs ops.toList) j 0 ops.toList) g.hb.t⟩ = some (g.v, h') ∧ g.ha.n = h'.n ∧ (∀ i ∈ yv (befs ops.toList) j 0 ops.toList, g.ha.t.get (nm n0 i) = g.hb.t.get (nm n0 i) ∧ h'.t.get (nm n0 i) = none) ∧
   ∀ b, (∀ i ∈ yv (befs ops.toList) j 0 ops.toList, b ≠ nm n0 i) → g.ha.t.get b = h'.t.get b := by
 obtain ⟨g', hg', hd⟩ := X.ent j o ho;cases hg.symm.trans hg';obtain ⟨_, _, hs⟩ := X.step j g hg;unfold stepG at hs;rw [hd] at hs;simp only [hm, ha, cond_false, cond_true] at hs;split at hs
 ·rename_i v h' he;split at hs
  ·rename_i t' ht;simp only [Option.some.injEq, Prod.mk.injEq] at hs;obtain ⟨rfl, hs⟩ := hs;obtain ⟨k1, k2, k3⟩ := jg _ _ _ ht;rw [← hs];exact ⟨h', he, rfl, fun i hi => ⟨k1 i hi, k3 i hi⟩, k2⟩
  ·cases hs
 ·cases hs
theorem Txt.mkeff (X : Txt P nt call ops n0 t t2 h0 h2 l) : ∀ g ∈ l, g.d.mkb = true → g.d.eff = false := by
 intro g hg hm;obtain ⟨j, hj⟩ := List.mem_iff_getElem?.1 hg;have hjl : j < ops.size := by rw [← X.len]; exact (Lz0.1 hj).1
 obtain ⟨g', hg', hd⟩ := X.ent j _ (Array.getElem?_eq_getElem hjl);cases hj.symm.trans hg';rw [hd] at hm ⊢;exact wv hm
theorem Txt.ob (X : Txt P nt call ops n0 t t2 h0 h2 l) {j : Nat} {o : Oper} {g : GE} (ho : ops[j]? = some o) (hg : l[j]? = some g) : obG n0 l j = bif mkOp o.op then g.ha.t.get (nm n0 j) else none := by
 obtain ⟨g', hg', hd⟩ := X.ent j o ho;cases hg.symm.trans hg';unfold obG;rw [hg];simp only;rw [hd]
theorem Txt.spc (X : Txt P nt call ops n0 t t2 h0 h2 l) (hA : ∀ (i : Nat) (o : Oper), ops[i]? = some o → ∀ e ∈ o.after.toList, Region.binds .any e = true → e.on < i) :
  ∀ j, j ≤ ops.size → ∃ Hk, (h0 :: hsG l)[cmG l j]? = some Hk ∧ Spc n0 ops.size l (fun m => decide (m < j)) (cmG l j) Hk (hAt h0 l j) := by
 have hbef : ∀ i j, bef (befs ops.toList) i j = true → i < j := by
  intro i j hb;have hC : Clo ops (fun k => decide (k < j)) := by
   intro q hq o' e ho' he hb';have := hA q o' ho' e he hb';simp only [decide_eq_true_eq] at hq ⊢;omega
  have hR : Rdy ops (fun k => decide (k < j)) j := by
   intro o' e ho' he hb';have := hA j o' ho' e he hb'
   simpa using this
  have := xO hb hC hR
  simpa using this
 intro j
 induction j with
 | zero =>
  intro _;have e0 : hAt h0 l 0 = h0 := by cases l <;> rfl
  rw [e0, zdr];refine ⟨h0, rfl, rfl, fun _ _ => rfl, fun m hm => ?_⟩
  rw [if_neg (by simp)]
  exact X.fresh m hm
 | succ j ih =>
  intro hj;obtain ⟨Hk, hHk, S⟩ := ih (by omega)
  have hjs : j < ops.size := by omega
  have ho : ops[j]? = some ops[j] := Array.getElem?_eq_getElem hjs;generalize ops[j] = o at ho;obtain ⟨g, hg, hd⟩ := X.ent j o ho;have hhb := (X.step j g hg).2.1;have hha : hAt h0 l (j + 1) = g.ha := zdc l h0 j g hg;have heff : (l.map (·.d.eff))[j]? = some (CE.anchor P o.op) := by rw [Lz6, hg]; simp [hd]
  have hcm : cmG l (j + 1) = cmG l j + (bif CE.anchor P o.op then 1 else 0) := by
   cases ha : CE.anchor P o.op with
   | false =>
    rw [cond_false, Nat.add_zero];refine xZ _ 0 fun k hk => ?_
    rw [Nat.zero_add];have : k ≠ j := fun hh => by rw [hh, heff, ha] at hk; cases hk
    simp only [decide_eq_decide];omega
   | true =>
    rw [cond_true];exact zeL _ 0 j (by rw [heff, ha]) (by simp) (by simp) (fun k hk => by rw [Nat.zero_add] at hk; simp only [decide_eq_decide]; omega)
  rw [hha];rcases zkm P o.op with hm | ⟨hm, ha⟩ | ⟨hm, ha, _⟩
  ·
   obtain ⟨k1, k2, h', k3, k4⟩ := X.made ho hg hm;rw [hcm, wv hm, cond_false, Nat.add_zero];refine ⟨Hk, hHk, by rw [k1, hhb]; exact S.n, fun b hb => ?_, fun m hmN => ?_⟩
   ·rw [k2 b (fun hh => by rw [hh, yl] at hb; omega), hhb]; exact S.old b hb
   ·by_cases hmj : m = j
    ·subst hmj;rw [if_pos (by simp), if_pos (LzB _), X.ob ho hg, hm]
     rfl
    ·rw [k2 _ (fun hh => hmj (wU hh)), hhb, S.res m hmN]
     by_cases hlt : m < j
     ·rw [if_pos (show decide (m < j) = true by simpa using hlt), if_pos (show decide (m < j + 1) = true by simp only [decide_eq_true_eq]; omega)]
     ·rw [if_neg (show ¬ decide (m < j) = true by simpa using hlt), if_neg (show ¬ decide (m < j + 1) = true by simp only [decide_eq_true_eq]; omega)]
  ·
   obtain ⟨h', k1, k2, k3, k4⟩ := X.anchor ho hg hm ha;rw [hcm, ha, cond_true];refine ⟨g.ha, ?_, rfl, fun _ _ => rfl, fun m hmN => ?_⟩
   ·rw [List.getElem?_cons_succ];exact zfJ l j g hg (by rw [hd]; exact ha)
   ·by_cases hlt : m < j + 1
    ·rw [if_pos (by simpa using hlt), if_neg]
     have : cmG l m ≤ cmG l j := xD _ 0 fun k _ hk => by simp only [decide_eq_true_eq] at hk ⊢; omega
     omega
    ·rw [if_neg (by simpa using hlt)]
     have hmem : m ∈ yv (befs ops.toList) j 0 ops.toList := by
      rw [wN];refine ⟨m, ops[m], by rw [LzA]; exact Array.getElem?_eq_getElem hmN, by omega, ?_⟩
      rw [Nat.zero_add];cases hb : bef (befs ops.toList) m j with
      | false => simp
      | true => have := hbef m j hb; omega
     rw [(k3 m hmem).1, hhb, S.res m hmN, if_neg (show ¬ decide (m < j) = true by simp only [decide_eq_true_eq]; omega)]
  ·
   obtain ⟨k1, _⟩ := X.quiet ho hg hm ha;rw [hcm, ha, cond_false, Nat.add_zero, k1, hhb];refine ⟨Hk, hHk, S.n, S.old, fun m hmN => ?_⟩
   rw [S.res m hmN];by_cases hmj : m = j
   ·subst hmj;rw [if_neg (show ¬ decide (m < m) = true by simp), if_pos (show decide (m < m + 1) = true by simp), if_pos (LzB _), X.ob ho hg, hm]
    rfl
   ·by_cases hlt : m < j
    ·rw [if_pos (show decide (m < j) = true by simpa using hlt), if_pos (show decide (m < j + 1) = true by simp only [decide_eq_true_eq]; omega)]
    ·rw [if_neg (show ¬ decide (m < j) = true by simpa using hlt), if_neg (show ¬ decide (m < j + 1) = true by simp only [decide_eq_true_eq]; omega)]
end
end Go.CE
end
section
namespace Go.CE
open Go.RowKit
section
variable {P : Program} {w0 : World} {S : Nat → Prop} {nt : Nat} {call : zh} {ops : Array Oper}
theorem zeC (hok : ui P ops (befs ops.toList) = true) : (∀ (i : Nat) (o : Oper), ops[i]? = some o → (∀ cs b, o.op ≠ .select cs b) ∧ ∀ e ∈ o.after.toList, Region.binds .any e = true → e.on < i) ∧
  ∀ (i j : Nat) (oi oj : Oper), ops[i]? = some oi → ops[j]? = some oj → i < j → bef (befs ops.toList) i j = true ∨ (oi.apart ops oj = true ∧ (anchor P oi.op = false ∨ anchor P oj.op = false)) := by
 obtain ⟨h1, h2⟩ := and2 hok
 constructor
 ·intro i o ho;have := wP _ 0 h1 i o (by rw [LzA]; exact ho)
  rw [Nat.zero_add] at this;obtain ⟨g1, g2⟩ := and2 this;refine ⟨(fun cs b hh => by rw [hh] at g1; cases g1), fun e he hb => ?_⟩
  rw [List.all_eq_true] at g2;have := g2 e he;rw [hb] at this;exact zQ (by simpa using this)
 ·intro i j oi oj hi hj hlt;have := wP _ 0 h2 j oj (by rw [LzA]; exact hj)
  rw [Nat.zero_add] at this;have := wP _ 0 this i oi (by rw [LzA]; exact hi)
  rw [Nat.zero_add] at this;simp only [Bool.or_eq_true] at this;rcases this with (this | this) | this
  ·have hle : Nat.ble (Nat.succ i) j = true := Nat.ble_eq_true_of_le hlt;rw [hle] at this;cases this
  ·exact .inl this
  ·obtain ⟨k1, k2⟩ := and2 this;exact .inr ⟨k1, by simpa using k2⟩
theorem zbN {n0 : Nat} {d : GOper} {tr : Tr AVal} {v : AVal} {mks : List (Nat × Nat × AObj)} : ∀ (hs : List AHeap) (c : Nat), zh0 call n0 d tr v mks c hs = true → ∀ (k : Nat) (hk : AHeap), hs[k]? = some hk →
  ∃ h', y9 call d.rop tr ⟨hk.n, delH n0 d.hide (jI n0 (c + k) mks hk.t)⟩ = some (v, h')
 | [], _, _, k, hk, hh => by simp at hh
 | h :: hs, c, e, k, hk, hh => by
  unfold zh0 at e;split at e
  ·rename_i v' h' hv;obtain ⟨e1, e2⟩ := and2 e;cases k with
   | zero =>
    simp only [List.getElem?_cons_zero, Option.some.injEq] at hh;subst hh;exact ⟨h', by rw [Nat.add_zero, hv, zhn e1]⟩
   | succ k =>
    have := zbN hs (Nat.succ c) e2 k hk (by simpa using hh)
    rwa [show Nat.succ c + k = c + (k + 1) by omega] at this
  ·cases e
theorem zbf {n0 : Nat} {mks : List (Nat × Nat × AObj)} {hs : List AHeap} : ∀ (l : List GE), wY call n0 mks hs l = true → ∀ (j : Nat) (g : GE), l[j]? = some g → g.d.eff = false → g.d.mkb = false →
  g.d.lo = g.d.hi ∨ ∀ k hk, g.d.lo ≤ k → k ≤ g.d.hi → hs[k]? = some hk → ∃ h', y9 call g.d.rop g.tr ⟨hk.n, delH n0 g.d.hide (jI n0 k mks hk.t)⟩ = some (g.v, h')
 | [], _, j, g, hj, _, _ => by simp at hj
 | g0 :: l, e, j, g, hj, hd, hm => by
  obtain ⟨e1, e2⟩ := and2 e;cases j with
  | zero =>
   simp only [List.getElem?_cons_zero, Option.some.injEq] at hj;subst hj;rw [hd, hm] at e1;simp only [Bool.false_or, Bool.or_eq_true] at e1;rcases e1 with e1 | e1
   ·exact .inl (beq_true e1)
   ·refine .inr fun k hk h1 h2 h3 => ?_
    have := zbN _ _ e1 (k - g0.d.lo) hk (by
     rw [List.getElem?_take_of_lt (by show k - g0.d.lo < Nat.sub (Nat.succ g0.d.hi) g0.d.lo; have : Nat.sub (Nat.succ g0.d.hi) g0.d.lo = g0.d.hi + 1 - g0.d.lo := rfl; omega), List.getElem?_drop]
     rw [show g0.d.lo + (k - g0.d.lo) = k by omega]
     exact h3)
    rwa [show g0.d.lo + (k - g0.d.lo) = k by omega] at this
  | succ j => exact zbf l e2 j g (by simpa using hj) hd hm
theorem ziz (C : xq P call) {Q : Exit → Act → World → Prop} {a0 : Act} {t t2 : Tr AVal} {hh0 h0 h2 : AHeap} {φ0 : Phi} {l : List GE} {ro : Option Nat} {n0 : Nat}
  (hok : ui P ops (befs ops.toList) = true) (X : Txt P nt call ops n0 t t2 h0 h2 l) (hch : wY call n0 (mksG n0 0 0 l) (h0 :: hsG l) l = true) (hn0 : hh0.n.toNat = n0) (hh0n : h0.n.toNat = n0 + ops.size)
  (hQ : ∀ a2 w2, Next1 w0 S φ0 nt hh0 t2 h2 a0 a2 w2 → Q .normal a2 w2) :
  ∀ (fuel : Nat) (listed : Array Bool) (φ : Phi) (a : Act) (w : World) (Hk H : AHeap), listed.size = ops.size → unl listed ≤ fuel → Clo ops (lst listed) → Ext n0 φ0 φ →
   (h0 :: hsG l)[ce (lst listed) 0 (ancs P ops.toList)]? = some Hk → Spc n0 ops.size l (lst listed) (ce (lst listed) 0 (ancs P ops.toList)) Hk H → HRel w0 S φ H w → n0 + ops.size ≤ H.n.toNat →
   TRel φ nt H.n.toNat (frL (lst listed) 0 (l.map gdv) t) a.tmps → a.defers = a0.defers → (∀ m, m < ops.size → lst listed m = false → (φ (nm n0 m)).ok = false) →
   wpAnyIn (FR ro) 0 P .any ops Q fuel listed a w := by
 obtain ⟨hA, hord⟩ := zeC hok;have hA' : ∀ (i : Nat) (o : Oper), ops[i]? = some o → ∀ e ∈ o.after.toList, Region.binds .any e = true → e.on < i := fun i o ho => (hA i o ho).2
 have hbef : ∀ i j, bef (befs ops.toList) i j = true → i < j := by
  intro i j hb;have hC : Clo ops (fun k => decide (k < j)) := by
   intro q hq o' e ho' he hb';have := hA' q o' ho' e he hb';simp only [decide_eq_true_eq] at hq ⊢;omega
  have hR : Rdy ops (fun k => decide (k < j)) j := by
   intro o' e ho' he hb';have := hA' j o' ho' e he hb'
   simpa using this
  simpa using xO hb hC hR
 have hspc := X.spc hA';have hcmE : ∀ j, cmG l j = ce (fun k => decide (k < j)) 0 (ancs P ops.toList) := fun j => by unfold cmG; rw [X.es]
 have hdst : ∀ (j : Nat) (o : Oper) (g : GE), ops[j]? = some o → l[j]? = some g → g.d.rop.dst = o.dst.map bn ∧ inT nt o.dst = true := by
  intro j o g ho hj;obtain ⟨g', hj', hd⟩ := X.ent j o ho;cases hj.symm.trans hj';rw [hd];rcases zkm P o.op with hm | ⟨hm, ha⟩ | ⟨hm, ha, _⟩
  ·obtain ⟨_, _, h', he, _⟩ := X.made ho hj hm;exact kH he
  ·obtain ⟨h', he, _⟩ := X.anchor ho hj hm ha;exact kH he
  ·obtain ⟨_, h', he⟩ := X.quiet ho hj hm ha;exact kH he
 have hdv : ∀ (j : Nat) (d : Option BN) (v : AVal) (s : BN), (l.map gdv)[j]? = some (d, v) → d = some s → ∃ o sn, ops[j]? = some o ∧ o.dst = some sn ∧ bn sn = s := by
  intro j d v s hj hd;rw [Lz6] at hj;cases hx : l[j]? with
  | none => rw [hx] at hj; cases hj
  | some g =>
   rw [hx] at hj;simp only [Option.map_some, Option.some.injEq, gdv, Prod.mk.injEq] at hj;have hjl : j < ops.size := by
    have := (Lz0.1 hx).1;have := X.len;omega
   have ho : ops[j]? = some ops[j] := Array.getElem?_eq_getElem hjl;have := (hdst j _ g ho hx).1;rw [hj.1, hd] at this;cases hod : (ops[j]).dst with
   | none => rw [hod] at this; cases this
   | some sn =>
    rw [hod] at this;exact ⟨_, sn, ho, hod, by simpa using this.symm⟩
 have hes : ∀ (j : Nat), (ancs P ops.toList)[j]? = some true → ∃ o, ops[j]? = some o ∧ anchor P o.op = true := by
  intro j hj;unfold ancs at hj;rw [Lz6, LzA] at hj;cases ho : ops[j]? with
  | none => rw [ho] at hj; cases hj
  | some o => rw [ho] at hj; exact ⟨o, rfl, by simpa using hj⟩
 have hes' : ∀ (j : Nat) (o : Oper), ops[j]? = some o → (ancs P ops.toList)[j]? = some (anchor P o.op) := by
  intro j o ho;unfold ancs;rw [Lz6, LzA, ho];rfl
 have hhid : ∀ (i m : Nat) (om : Oper), ops[m]? = some om → (m ∈ yv (befs ops.toList) i 0 ops.toList ↔ (mkOp om.op && bef (befs ops.toList) m i) = false) := by
  intro i m om hom;rw [wN]
  constructor
  ·rintro ⟨j, o, h1, h2, h3⟩
   rw [Nat.zero_add] at h2 h3;subst h2;rw [LzA] at h1;cases hom.symm.trans h1;exact h3
  ·intro hq;exact ⟨m, om, by rw [LzA]; exact hom, by omega, by rw [Nat.zero_add]; exact hq⟩
 have hhidlt : ∀ (i m : Nat), m ∈ yv (befs ops.toList) i 0 ops.toList → m < ops.size := by
  intro i m hm;rw [wN] at hm;obtain ⟨j, o, h1, h2, _⟩ := hm;rw [LzA] at h1;have := (Lz7.1 h1).1;omega
 have hFG : ∀ (j : Nat) (o : Oper) (g : GE) (Hk : AHeap) (m : Nat), ops[j]? = some o → l[j]? = some g → mkOp o.op = false → anchor P o.op = true → (h0 :: hsG l)[cmG l j]? = some Hk → m ∈ yv (befs ops.toList) j 0 ops.toList →
   FG n0 l (cmG l j + 1) g.ha m = FG n0 l (cmG l j) Hk m := by
  intro j o g Hk m ho hg hm ha hHk hmem;have hmN := hhidlt j m hmem;obtain ⟨h', k1, k2, k3, k4⟩ := X.anchor ho hg hm ha;have hjN : j < ops.size := (Lz7.1 ho).1;obtain ⟨Hk', hHk', Sp⟩ := hspc j (by omega)
  cases hHk.symm.trans hHk';have hhb := (X.step j g hg).2.1;have hgm : g.ha.t.get (nm n0 m) = if decide (m < j) = true then FG n0 l (cmG l j) Hk m else none := by
   rw [(k3 m hmem).1, hhb]; exact Sp.res m hmN
  show (if cmG l j + 1 ≤ cmG l m then obG n0 l m else g.ha.t.get (nm n0 m)) = if cmG l j ≤ cmG l m then obG n0 l m else Hk.t.get (nm n0 m)
  rcases Nat.lt_trichotomy m j with hmj | hmj | hmj
  ·have hle : cmG l m ≤ cmG l j := xD _ 0 fun k _ hk => by simp only [decide_eq_true_eq] at hk ⊢; omega
   rw [if_neg (by omega), hgm, if_pos (by simpa using hmj)]
  ·subst hmj;rw [if_neg (by omega), hgm, if_neg (by simp), if_pos (LzB _), X.ob ho hg, hm]
   rfl
  ·have hle : cmG l j + 1 ≤ cmG l m := by
    have h1 : cmG l (j + 1) = cmG l j + 1 := by
     refine zeL _ 0 j ?_ (by simp) (by simp) (fun k hk => by rw [Nat.zero_add] at hk; simp only [decide_eq_decide]; omega)
     rw [X.es, hes' j o ho, ha]
    have h2 : cmG l (j + 1) ≤ cmG l m := xD _ 0 fun k _ hk => by simp only [decide_eq_true_eq] at hk ⊢; omega
    omega
   rw [if_pos hle, if_pos (by omega)]
 have FGu : ∀ (k : Nat) (Hk : AHeap) (m : Nat), m < ops.size → (h0 :: hsG l)[k]? = some Hk → (∀ (j : Nat) (oj : Oper), ops[j]? = some oj → anchor P oj.op = true → cmG l j < k → m ∈ yv (befs ops.toList) j 0 ops.toList) → FG n0 l k Hk m = obG n0 l m := by
  intro k
  induction k with
  | zero => intro Hk m _ _ _; exact if_pos (Nat.zero_le _)
  | succ k ih =>
   intro Hk m hmN hHk hall;rw [List.getElem?_cons_succ] at hHk;obtain ⟨j, g, k1, k2, k3, k4⟩ := zda l k Hk hHk;have hjN : j < ops.size := by rw [← X.len]; exact (Lz0.1 k1).1
   have ho : ops[j]? = some ops[j] := Array.getElem?_eq_getElem hjN;obtain ⟨g', hg', hd⟩ := X.ent j _ ho;cases k1.symm.trans hg';have ha : anchor P ops[j].op = true := by rw [hd] at k2; exact k2
   have hm : mkOp ops[j].op = false := by
    cases hm : mkOp ops[j].op with
    | false => rfl
    | true => rw [wv hm] at ha; cases ha
   obtain ⟨Hk', hHk', _⟩ := hspc j (by omega)
   have := hFG j _ g Hk' m ho k1 hm ha hHk' (hall j _ ho ha (by omega))
   rw [k3, k4] at this;rw [this];rw [k3] at hHk';exact ih Hk' m hmN hHk' fun j oj hoj haj hlt => hall j oj hoj haj (by omega)
 have FGn : ∀ (k : Nat) (Hk : AHeap) (m : Nat) (om : Oper), ops[m]? = some om → mkOp om.op = false → (h0 :: hsG l)[k]? = some Hk → FG n0 l k Hk m = none := by
  intro k Hk m om hom hmk hHk;have hmN : m < ops.size := (Lz7.1 hom).1;obtain ⟨g, hg, _⟩ := X.ent m om hom;rw [FGu k Hk m hmN hHk fun j oj _ _ _ => (hhid j m om hom).2 (by rw [hmk]; rfl), X.ob hom hg, hmk]
  rfl
 have hkNone : ∀ (k : Nat) (Hk : AHeap) (m : Nat), m < ops.size → (h0 :: hsG l)[k]? = some Hk → k ≤ cmG l m → Hk.t.get (nm n0 m) = none := by
  intro k Hk m hmN hHk hle;cases k with
  | zero => simp only [List.getElem?_cons_zero, Option.some.injEq] at hHk; subst hHk; exact X.fresh m hmN
  | succ k =>
   rw [List.getElem?_cons_succ] at hHk;obtain ⟨j, g, k1, k2, k3, k4⟩ := zda l k Hk hHk;have hjN : j < ops.size := by rw [← X.len]; exact (Lz0.1 k1).1
   obtain ⟨Hk', _, Sp⟩ := hspc (j + 1) (by omega)
   rw [zdc l h0 j g k1, k4] at Sp;have hmj : ¬ m < j + 1 := fun hh => by
    have : cmG l m ≤ cmG l j := xD _ 0 fun q _ hq => by simp only [decide_eq_true_eq] at hq ⊢; omega
    omega
   rw [Sp.res m hmN, if_neg (show ¬ decide (m < j + 1) = true by simpa using hmj)]
 have finish : ∀ (listed : Array Bool) (φ : Phi) (a : Act) (w : World) (Hk H : AHeap), (∀ i, i < ops.size → lst listed i = true) → Ext n0 φ0 φ →
   (h0 :: hsG l)[ce (lst listed) 0 (ancs P ops.toList)]? = some Hk → Spc n0 ops.size l (lst listed) (ce (lst listed) 0 (ancs P ops.toList)) Hk H → HRel w0 S φ H w → n0 + ops.size ≤ H.n.toNat →
   TRel φ nt H.n.toNat (frL (lst listed) 0 (l.map gdv) t) a.tmps → a.defers = a0.defers → Q .normal a w := by
  intro listed φ a w Hk H hall hE hH Sp HR hn T hdf;have hce : ce (lst listed) 0 (ancs P ops.toList) = cmG l ops.size := by
   rw [hcmE];refine xZ _ 0 fun j hj => ?_
   obtain ⟨o, ho, _⟩ := hes j hj;have := (Lz7.1 ho).1;rw [Nat.zero_add, hall j this]
   simpa using this
  rw [hce] at hH Sp;obtain ⟨Hk', hHk', Sp'⟩ := hspc ops.size (LzB _);cases hH.symm.trans hHk';rw [← X.fin] at Sp';have hg : ∀ b, h2.t.get b = H.t.get b := by
   intro b;rcases zbZ n0 ops.size b with hb | ⟨m, hm, rfl⟩
   ·rw [Sp.old b hb, Sp'.old b hb]
   ·rw [Sp.res m hm, Sp'.res m hm, if_pos (hall m hm), if_pos (show decide (m < ops.size) = true by simpa using hm)]
  have hnn : h2.n.toNat = H.n.toNat := by rw [Sp.n, Sp'.n]
  refine hQ a w ⟨φ, by rw [hn0]; exact hE, HR.of_get hg hnn, ?_, hdf, by rw [hn0, hnn]; omega⟩
  rw [hnn, X.fr, ← kC (L := lst listed) (l.map gdv) 0 t (fun j hj => by rw [Nat.zero_add]; exact hall j (by simpa [X.len] using hj))]
  exact T
 intro fuel
 induction fuel with
 | zero =>
  intro listed φ a w Hk H hsz hu hC hE hH Sp HR hn T hdf hbad;have hall : ∀ i, i < ops.size → lst listed i = true := fun i hi => zgq (by omega) (by omega)
  have hnil : Region.ready .any ops listed = [] := by
   cases hr : Region.ready .any ops listed with
   | nil => rfl
   | cons i r =>
    obtain ⟨o, ho, h1, h2, h3⟩ := mem_ready (ops := ops) (listed := listed) (i := i) (by rw [hr]; simp)
    rw [hall i (by omega)] at h2
    cases h2
  exact ⟨hnil, finish listed φ a w Hk H hall hE hH Sp HR hn T hdf⟩
 | succ fuel ih =>
  intro listed φ a w Hk H hsz hu hC hE hH Sp HR hn T hdf hbad;refine ⟨fun hnil => finish listed φ a w Hk H (zco (ops := ops) hsz (fun i o e ho he hb => hA' i o ho e he hb) hnil) hE hH Sp HR hn T hdf, fun i hi => ?_⟩
  obtain ⟨o, ho, hlt, hli, hR⟩ := mem_ready hi;have hiN : i < ops.size := (Lz7.1 ho).1;obtain ⟨g, hj, hgd⟩ := X.ent i o ho;obtain ⟨htr, hhb, _⟩ := X.step i g hj;obtain ⟨hnosel, hedge⟩ := hA i o ho;obtain ⟨hdd, hdin⟩ := hdst i o g ho hj;generalize hk : ce (lst listed) 0 (ancs P ops.toList) = k at hH Sp;have before : ∀ j, bef (befs ops.toList) j i = true → lst listed j = true := fun j hb => xO hb hC hR
  have after : ∀ j, bef (befs ops.toList) i j = true → lst listed j = false := by
   intro j hb;cases hj : lst listed j with
   | false => rfl
   | true =>
    have := xO hb hC (hC j hj);rw [hli] at this;cases this
  have hCi : Clo ops (fun k => decide (k < i)) := by
   intro j hj o' e ho' he hb;have := hA' j o' ho' e he hb;simp only [decide_eq_true_eq] at hj ⊢;omega
  have hRi : Rdy ops (fun k => decide (k < i)) i := by
   intro o' e ho' he hb;have := hA' i o' ho' e he hb
   simpa using this
  have hlk : g.d.looks = (o.looksAt ops).map bn := by rw [hgd]
  rw [hlk] at htr;have hagree : ∀ s ∈ (o.looksAt ops).map bn, (frL (fun k => decide (k < i)) 0 (l.map gdv) t).get s = (frL (lst listed) 0 (l.map gdv) t).get s := by
   intro s hs';obtain ⟨sn, hsn, rfl⟩ := List.mem_map.1 hs';rw [uf, uf]
   congr 1
   refine ki _ 0 fun j d v hjd hds => ?_
   obtain ⟨oj, sj, hoj, hsj, hbe⟩ := hdv j d v _ hjd hds;have := un hbe;subst this;rw [Nat.zero_add];rcases Nat.lt_trichotomy j i with hji | hji | hji
   ·rcases hord j i oj o hoj ho hji with hb | ⟨hap, _⟩
    ·rw [before j hb]; simpa using hji
    ·exact absurd hsn ((Oper.apart_spec hap).1 _ hsj)
   ·subst hji; rw [hli]; simp
   ·rcases hord i j o oj ho hoj hji with hb | ⟨hap, _⟩
    ·rw [after j hb]; simp; omega
    ·exact absurd hsn ((Oper.apart_spec hap).2.2 _ hsj)
  have htrg : ∀ s, g.tr.get s = (frL (lst listed) 0 (l.map gdv) t).get s ∧ s ∈ (o.looksAt ops).map bn ∨ g.tr.get s = none := by
   intro s
   classical
   have := wC (frL (fun k => decide (k < i)) 0 (l.map gdv) t) s ((o.looksAt ops).map bn)
   rw [← htr] at this;by_cases hm : s ∈ (o.looksAt ops).map bn
   ·rw [if_pos hm, hagree s hm] at this; exact .inl ⟨this, hm⟩
   ·rw [if_neg hm] at this; exact .inr this
  have Tr' : TRel φ nt H.n.toNat g.tr (wj φ nt g.tr) := by
   refine zeH (fun j hj => ?_) (fun s v hv => ?_)
   ·rcases htrg (bn j) with ⟨h1, _⟩ | h1
    ·rw [h1]; exact T.out j hj
    ·exact h1
   ·rcases htrg s with ⟨h1, _⟩ | h1
    ·rw [h1] at hv; exact T.wf s v hv
    ·rw [h1] at hv; cases hv
  have htmps : ∀ sn ∈ o.looksAt ops, a.tmps[sn]? = (wj φ nt g.tr)[sn]? := by
   intro sn hsn;by_cases hlt' : sn < nt
   ·rw [T.get sn hlt', Tr'.get sn hlt'];have hm : bn sn ∈ (o.looksAt ops).map bn := List.mem_map.2 ⟨sn, hsn, rfl⟩;rw [← hagree _ hm]
    classical
    have := wC (frL (fun k => decide (k < i)) 0 (l.map gdv) t) (bn sn) ((o.looksAt ops).map bn)
    rw [← htr, if_pos hm] at this;rw [this]
   ·have e1 : a.tmps[sn]? = none := Array.getElem?_eq_none (by rw [T.size]; exact Nat.le_of_not_lt hlt')
    have e2 : (wj φ nt g.tr)[sn]? = none := Array.getElem?_eq_none (by rw [Tr'.size]; exact Nat.le_of_not_lt hlt')
    rw [e1, e2]
  have hexec : execOp a.eval o = execOp ({ tmps := wj φ nt g.tr, defers := [] } : Act).eval o := by
   refine execOp_congr o hnosel fun x hx => ?_
   cases x with
   | tmp sn =>
    have := htmps sn (List.mem_append_left _ (List.mem_filterMap.2 ⟨.tmp sn, by simpa using hx, rfl⟩))
    simp only [Act.eval, Array.getD_eq_getD_getElem?, this]
   | _ => rfl
  have hwant : Region.wanted o (yielded ops a.tmps) = Region.wanted o (yielded ops (wj φ nt g.tr)) := by
   unfold Region.wanted;cases hg : o.guard with
   | none => rfl
   | some gb =>
    obtain ⟨q, b⟩ := gb;simp only;have : yielded ops a.tmps q = yielded ops (wj φ nt g.tr) q := by
     unfold yielded;cases hd : (ops[q]?).bind (·.dst) with
     | none => rfl
     | some sn =>
      have := htmps sn (List.mem_append_right _ (by simp [hg, hd]))
      simp only [Option.bind_some, this]
    rw [this]
  have hC' : Clo ops (lst (listed.setIfInBounds i true)) := by
   intro j hj o' e ho' he hb;rw [wh hlt] at hj ⊢;rw [Bool.or_eq_true]
   right
   simp only [Bool.or_eq_true, decide_eq_true_eq] at hj;rcases hj with hj | hj
   ·subst hj;exact hR o' e ho' he hb
   ·exact hC j hj o' e ho' he hb
  have next : ∀ (φ2 : Phi) (w2 : World) (Hk' H' : AHeap), ExtW H.n.toNat φ φ2 → Ext n0 φ φ2 → H.n.toNat ≤ H'.n.toNat →
    (h0 :: hsG l)[ce (lst (listed.setIfInBounds i true)) 0 (ancs P ops.toList)]? = some Hk' → Spc n0 ops.size l (lst (listed.setIfInBounds i true)) (ce (lst (listed.setIfInBounds i true)) 0 (ancs P ops.toList)) Hk' H' →
    HRel w0 S φ2 H' w2 → wfA φ2 H'.n.toNat g.v → (∀ m, m < ops.size → lst (listed.setIfInBounds i true) m = false → (φ2 (nm n0 m)).ok = false) →
    wpAnyIn (FR ro) 0 P .any ops Q fuel (listed.setIfInBounds i true) (a.put o.dst (zo φ2 g.v)) w2 := by
   intro φ2 w2 Hk' H' he he0 hle hH' Sp' H2 hv hbad';refine ih _ φ2 _ w2 Hk' H' (by simpa using hsz) ?_ hC' (hE.trans he0 (LzB _)) hH' Sp' H2 (Nat.le_trans hn hle) ?_ ((put_defers _ _ _).trans hdf) hbad'
   ·have := ziQ hlt hli;omega
   ·refine TRel.of_get (TRel.put (T.extW he hle) hv o.dst hdin) fun s => ?_
    classical
    rw [zcz, uf];have hri : (l.map gdv)[i]? = some (o.dst.map bn, g.v) := by
     rw [Lz6, hj];simp only [Option.map_some, gdv];rw [← hdd]
    by_cases hd : o.dst.map bn = some s
    ·rw [if_pos hd];rw [hd] at hri;rw [zfA (l.map gdv) 0 i g.v hri (by rw [Nat.zero_add, wh hlt]; simp) (fun j d u hij hjd hds => ?_)]
     ·rfl
     ·rw [Nat.zero_add, wh hlt];obtain ⟨oj, sj, hoj, hsj, hbe⟩ := hdv j d u _ hjd hds;have hne : ¬ j = i := by omega
      simp only [hne, decide_false, Bool.false_or];rcases hord i j o oj ho hoj hij with hb | ⟨hap, _⟩
      ·exact after j hb
      ·cases hod : o.dst with
       | none => rw [hod] at hd; cases hd
       | some so =>
        rw [hod] at hd;have : so = sj := un (by rw [hbe]; simpa using hd)
        subst this;exact absurd hsj ((Oper.apart_spec hap).2.1 _ hod)
    ·rw [if_neg hd, uf]
     congr 1
     refine ki _ 0 fun j d u hjd hds => ?_
     rw [Nat.zero_add, wh hlt];have hne : ¬ j = i := fun hh => by
      subst hh;rw [hri] at hjd;cases hjd;exact hd hds
     simp [hne]
  have lset : ∀ m, lst (listed.setIfInBounds i true) m = (decide (m = i) || lst listed m) := wh hlt
  have badK : ∀ (φ2 : Phi), (∀ m, m < ops.size → m ≠ i → lst listed m = false → φ2 (nm n0 m) = φ (nm n0 m)) → ∀ m, m < ops.size → lst (listed.setIfInBounds i true) m = false → (φ2 (nm n0 m)).ok = false := by
   intro φ2 hsame m hm hl;rw [lset, Bool.or_eq_false_iff] at hl;rw [hsame m hm (by simpa using hl.1) hl.2]
   exact hbad m hm hl.2
  unfold wpOpIn;simp only [ho];obtain ⟨Hi, hHi, Spi⟩ := hspc i (by omega)
  rw [← hhb] at Spi;have partOf : ∀ (t' : Tr AObj) (n' : BN), (∀ b o', (b.toNat < n0 ∨ n0 + ops.size ≤ b.toNat) → t'.get b = some o' → Hk.t.get b = some o') →
    (∀ m, m < ops.size → m ∉ yv (befs ops.toList) i 0 ops.toList → ∀ o', t'.get (nm n0 m) = some o' → FG n0 l k Hk m = some o') → (∀ m ∈ yv (befs ops.toList) i 0 ops.toList, t'.get (nm n0 m) = none) → Sbh ⟨n', t'⟩ H := by
   intro t' n' h1 h2 h3 b o' hb;rcases zbZ n0 ops.size b with hb' | ⟨m, hm, rfl⟩
   ·rw [Sp.old b hb']; exact h1 b o' hb' hb
   ·by_cases hmem : m ∈ yv (befs ops.toList) i 0 ops.toList
    ·have hb : t'.get (nm n0 m) = some o' := hb;rw [h3 m hmem] at hb; cases hb
    ·have hq : (mkOp ops[m].op && bef (befs ops.toList) m i) = true := by
      cases hq : mkOp ops[m].op && bef (befs ops.toList) m i with
      | true => rfl
      | false => exact absurd ((hhid i m _ (Array.getElem?_eq_getElem hm)).2 hq) hmem
     rw [Sp.res m hm, if_pos (before m (and2 hq).2)];exact h2 m hm hmem o' hb
  have hself : Sbh ⟨g.hb.n, delH n0 (yv (befs ops.toList) i 0 ops.toList) g.hb.t⟩ H ∨ cmG l i ≠ k := by
   by_cases hki : cmG l i = k
   ·left
    rw [hki] at hHi Spi;cases hH.symm.trans hHi;refine partOf _ _ (fun b o' hb hget => ?_) (fun m hmN hmem o' hget => ?_) (fun m hmem => zbb _ _ m hmem)
    ·rw [wX _ _ b fun j hj hh => by have := hhidlt i j hj; rw [hh, yl] at hb; omega] at hget
     rw [← Spi.old b hb]; exact hget
    ·rw [wX _ _ _ fun j hj hh => hmem (by rw [wU hh]; exact hj), Spi.res m hmN] at hget
     by_cases hmi : decide (m < i) = true
     ·rw [if_pos hmi] at hget; exact hget
     ·rw [if_neg hmi] at hget; cases hget
   ·exact .inr hki
  have hnE : cmG l i = k → g.hb.n.toNat = H.n.toNat := by
   intro hki;rw [hki] at hHi;cases hH.symm.trans hHi;rw [Spi.n, Sp.n]
  have ceSame : anchor P o.op = false → ce (lst (listed.setIfInBounds i true)) 0 (ancs P ops.toList) = k := by
   intro ha;rw [← hk];refine xZ _ 0 fun j hj => ?_
   rw [Nat.zero_add, lset];obtain ⟨oj, hoj, haj⟩ := hes j hj;have : j ≠ i := fun hh => by subst hh; cases ho.symm.trans hoj; rw [ha] at haj; cases haj
   simp [this]
  have spcSame : anchor P o.op = false → FG n0 l k Hk i = none → Spc n0 ops.size l (lst (listed.setIfInBounds i true)) k Hk H := by
   intro ha hnone;refine ⟨Sp.n, Sp.old, fun m hmN => ?_⟩
   rw [Sp.res m hmN, lset];by_cases hmi : m = i
   ·subst hmi;rw [if_neg (by rw [hli]; simp), if_pos (by simp)]
    exact hnone.symm
   ·simp only [hmi, decide_false, Bool.false_or]
  rcases zkm P o.op with hm | ⟨hm, ha⟩ | ⟨hm, ha, hq⟩
  ·
   have ha := wv (P := P) hm;obtain ⟨k1, k2, h', k3, k4⟩ := X.made ho hj hm;have hob : FG n0 l k Hk i = obG n0 l i := by
    refine FGu k Hk i hiN hH fun j oj hoj haj hlt => (hhid j i o ho).2 ?_
    cases hb : bef (befs ops.toList) i j with
    | false => simp
    | true =>
     have hlj := after j hb;exfalso;have hle : ce (lst listed) 0 (ancs P ops.toList) ≤ ce (fun q => decide (q < j)) 0 (ancs P ops.toList) := by
      refine xD _ 0 fun q hq hlq => ?_
      rw [Nat.zero_add] at hlq ⊢;obtain ⟨oq, hoq, haq⟩ := hes q hq;rcases Nat.lt_trichotomy q j with hqj | hqj | hqj
      ·simpa using hqj
      ·subst hqj; rw [hlj] at hlq; cases hlq
      ·rcases hord j q oj oq hoj hoq hqj with hb' | ⟨_, hc | hc⟩
       ·have := xO hb' hC (hC q hlq);rw [hlj] at this; cases this
       ·rw [haj] at hc; cases hc
       ·rw [haq] at hc; cases hc
     rw [hk, ← hcmE] at hle;omega
   have hHnone : H.t.get (nm n0 i) = none := by rw [Sp.res i hiN, if_neg (by rw [hli]; simp)]
   have hnmlt : (nm n0 i).toNat < H.n.toNat := by rw [yl]; omega
   rcases qa (a := { tmps := wj φ nt g.tr, defers := [] }) k3 Tr' with ⟨hw, hc⟩ | ⟨hw, hv, hh⟩
   ·rw [if_pos (by rw [hwant]; exact hw)]
    obtain ⟨obj, vf, hsh, hconc, hwf, howf⟩ := zgW (nt := nt) hm hc;have e1 := hsh ⟨nm n0 i, g.hb.t⟩;rw [hc] at e1;simp only [Option.some.injEq, Prod.mk.injEq] at e1;obtain ⟨ev, eh⟩ := e1;have hobj : obG n0 l i = some obj := by
     rw [X.ob ho hj, hm];show g.ha.t.get (nm n0 i) = some obj;rw [← k4, eh];exact zx _ _ _
    refine zd6 C HR (ar := { tmps := wj φ nt g.tr, defers := [] }) Tr' hexec (hsh H) ?_;intro φ1 w2 he H2 hv hle;obtain ⟨HR2, he2⟩ := HR.rename H2 he (howf φ _ _ Tr') hnmlt (hbad i hiN hli) hHnone;have hcv : zo φ1 (.s (.one (vf H.n))) = zo (upd φ (nm n0 i) (φ1 H.n)) g.v := by
     rw [ev];exact hconc _ _ _ _ (zm _ _ _).symm
    rw [hcv];refine next _ w2 Hk (H.put (nm n0 i) obj) he2 (fun b hb => ?_) (LzB _) (by rw [ceSame ha]; exact hH) ?_ HR2 ?_ (badK _ fun m hmN hmi _ => ?_)
    ·have : b ≠ nm n0 i := fun hh => by rw [hh, yl] at hb; omega
     simp [upd, this]
    ·rw [ceSame ha];refine ⟨Sp.n, fun b hb => ?_, fun m hmN => ?_⟩
     ·show (H.t.set (nm n0 i) obj).get b = _;rw [zn _ _ _ _ (fun hh => by rw [hh, yl] at hb; omega)]
      exact Sp.old b hb
     ·show (H.t.set (nm n0 i) obj).get (nm n0 m) = _;rw [lset];by_cases hmi : m = i
      ·subst hmi;rw [zx, if_pos (by simp)]
       exact (hob.trans hobj).symm
      ·rw [zn _ _ _ _ (fun hh => hmi (wU hh)), Sp.res m hmN]
       simp only [hmi, decide_false, Bool.false_or]
    ·rw [ev];refine hwf _ _ _ ⟨hnmlt, ?_⟩;rw [zm];exact H2.okb H.n obj (by simp only [AHeap.new]; exact zx _ _ _)
    ·have : nm n0 m ≠ nm n0 i := fun hh => hmi (wU hh)
     simp [upd, this]
   ·rw [if_neg (by rw [hwant, hw]; simp)]
    have hnone : FG n0 l k Hk i = none := by
     rw [hob, X.ob ho hj, hm];show g.ha.t.get (nm n0 i) = none;rw [← k4, hh];show g.hb.t.get (nm n0 i) = none;rw [Spi.res i hiN, if_neg (by simp)]
    have hn' := next φ w Hk H (Ext.refl _ _).w (Ext.refl _ _) (LzB _) (by rw [ceSame ha]; exact hH) (by rw [ceSame ha]; exact spcSame ha hnone) HR (by rw [hv]; exact fun _ hv => by cases hv) (badK φ fun _ _ _ _ => rfl)
    rw [hv] at hn';exact ⟨fun f _ => trivial, hn'⟩
  ·
   have hki : cmG l i = k := by
    rw [hcmE, ← hk];refine (xZ _ 0 fun j hj => ?_).symm
    obtain ⟨oj, hoj, haj⟩ := hes j hj;rw [Nat.zero_add];rcases Nat.lt_trichotomy j i with hji | hji | hji
    ·rcases hord j i oj o hoj ho hji with hb | ⟨_, hc | hc⟩
     ·rw [before j hb]; simpa using hji
     ·rw [haj] at hc; cases hc
     ·rw [ha] at hc; cases hc
    ·subst hji; rw [hli]; simp
    ·rcases hord i j o oj ho hoj hji with hb | ⟨_, hc | hc⟩
     ·rw [after j hb]; simp; omega
     ·rw [ha] at hc; cases hc
     ·rw [haj] at hc; cases hc
   have hsub := hself.resolve_right (fun hh => hh hki)
   have hEn := hnE hki;obtain ⟨h', k1, k2, k3, k4⟩ := X.anchor ho hj hm ha;have hce1 : ce (lst (listed.setIfInBounds i true)) 0 (ancs P ops.toList) = k + 1 := by
    rw [← hk];exact zeL (L := lst listed) (ancs P ops.toList) 0 i (by rw [hes' i o ho, ha]) (by rw [Nat.zero_add]; exact hli) (by rw [lset]; simp) (fun j hj => by rw [Nat.zero_add] at hj; rw [lset]; simp [hj])
   have hH1 : (h0 :: hsG l)[k + 1]? = some g.ha := by
    rw [List.getElem?_cons_succ, ← hki];exact zfJ l i g hj (by rw [hgd]; exact ha)
   have HE := HR.sub hsub hEn;have go : ∀ (φ2 : Phi) (w2 : World), Ext H.n.toNat φ φ2 → HRel w (Desc φ ⟨g.hb.n, delH n0 (yv (befs ops.toList) i 0 ops.toList) g.hb.t⟩) φ2 h' w2 → wfA φ2 h'.n.toNat g.v → H.n.toNat ≤ h'.n.toNat →
     wpAnyIn (FR ro) 0 P .any ops Q fuel (listed.setIfInBounds i true) (a.put o.dst (zo φ2 g.v)) w2 := by
    intro φ2 w2 he H2 hv hle;obtain ⟨t', m1, m2⟩ := mixT (n0 := n0) H.t h'.t (yv (befs ops.toList) i 0 ops.toList);have HR2 : HRel w0 S φ2 ⟨h'.n, t'⟩ w2 := by
     refine HR.join hsub hEn H2 he hle rfl fun b o' hb => ?_
     by_cases hmem : ∃ m ∈ yv (befs ops.toList) i 0 ops.toList, b = nm n0 m
     ·obtain ⟨m, hmem, rfl⟩ := hmem
      right
      exact ⟨by rw [← m1 m hmem]; exact hb, zbb _ _ m hmem⟩
     ·left
      rw [← m2 b fun j hj hh => hmem ⟨j, hj, hh⟩]; exact hb
    refine next φ2 w2 g.ha ⟨h'.n, t'⟩ he.w (he.mono (by omega)) hle (by rw [hce1]; exact hH1) ?_ HR2 hv (badK φ2 fun m hmN _ _ => he _ (by rw [yl]; omega))
    rw [hce1];refine ⟨by rw [k2], fun b hb => ?_, fun m hmN => ?_⟩
    ·have hb' : ∀ j ∈ yv (befs ops.toList) i 0 ops.toList, b ≠ nm n0 j := fun j hj hh => by have := hhidlt i j hj; rw [hh, yl] at hb; omega
     show t'.get b = _;rw [m2 b hb', k4 b hb']
    ·show t'.get (nm n0 m) = _;rw [lset];by_cases hmem : m ∈ yv (befs ops.toList) i 0 ops.toList
     ·have hfg : FG n0 l (k + 1) g.ha m = FG n0 l k Hk m := by
       have := hFG i o g Hk m ho hj hm ha (by rw [hki]; exact hH) hmem
       rwa [hki] at this
      rw [m1 m hmem, Sp.res m hmN];by_cases hmi : m = i
      ·subst hmi;rw [if_neg (by rw [hli]; simp), if_pos (by simp)]
       exact (hfg.trans (FGn k Hk m o ho hm hH)).symm
      ·simp only [hmi, decide_false, Bool.false_or];by_cases hlm : lst listed m = true
       ·rw [if_pos hlm, if_pos hlm]; exact hfg.symm
       ·rw [if_neg hlm, if_neg hlm]
     ·have hq : (mkOp ops[m].op && bef (befs ops.toList) m i) = true := by
       cases hq : mkOp ops[m].op && bef (befs ops.toList) m i with
       | true => rfl
       | false => exact absurd ((hhid i m _ (Array.getElem?_eq_getElem hmN)).2 hq) hmem
      have hbm := (and2 hq).2;have hmi := hbef m i hbm;have hle' : cmG l m ≤ cmG l i := xD _ 0 fun q _ hq => by simp only [decide_eq_true_eq] at hq ⊢; omega
      have hb' : ∀ j ∈ yv (befs ops.toList) i 0 ops.toList, nm n0 m ≠ nm n0 j := fun j hj hh => hmem (by rw [wU hh]; exact hj)
      rw [m2 _ hb', if_pos (by rw [before m hbm]; simp), if_neg (by omega), k4 _ hb']
   have TrE : TRel φ nt (AHeap.n ⟨g.hb.n, delH n0 (yv (befs ops.toList) i 0 ops.toList) g.hb.t⟩).toNat g.tr (wj φ nt g.tr) := by
    show TRel φ nt g.hb.n.toNat g.tr _;rw [hEn]; exact Tr'
   rcases qa (a := { tmps := wj φ nt g.tr, defers := [] }) k1 Tr' with ⟨hw, hc⟩ | ⟨hw, hv, hh⟩
   ·rw [if_pos (by rw [hwant]; exact hw)]
    refine zd6 C HE (ar := { tmps := wj φ nt g.tr, defers := [] }) TrE hexec hc ?_;intro φ2 w2 he H2 hv hle;exact go φ2 w2 (by rw [← hEn]; exact he) H2 hv (by rw [← hEn]; exact hle)
   ·rw [if_neg (by rw [hwant, hw]; simp)]
    have := go φ w (Ext.refl _ _) (by rw [hh]; exact HE) (by rw [hv]; exact fun _ hv => by cases hv) (by rw [hh]; exact Nat.le_of_eq hEn.symm)
    rw [hv] at this;exact ⟨fun f _ => trivial, this⟩
  ·
   have hex : ∃ X' : AHeap, Sbh X' H ∧ ∃ h', y9 call (yF P nt ops o) g.tr X' = some (g.v, h') := by
    obtain ⟨_, h', he⟩ := X.quiet ho hj hm ha;have hlo : ce (fun q => bef (befs ops.toList) q i) 0 (ancs P ops.toList) ≤ k := by
     rw [← hk];exact xD _ 0 fun j _ hb => by rw [Nat.zero_add] at hb ⊢; exact before j hb
    have hhi : k ≤ ce (fun q => !bef (befs ops.toList) i q) 0 (ancs P ops.toList) := by
     rw [← hk];refine xD _ 0 fun j _ hb => ?_
     rw [Nat.zero_add] at hb ⊢;cases hbb : bef (befs ops.toList) i j with
     | false => rfl
     | true => rw [after j hbb] at hb; cases hb
    have hlo0 : ce (fun q => bef (befs ops.toList) q i) 0 (ancs P ops.toList) ≤ cmG l i := by
     rw [hcmE];exact xD _ 0 fun j _ hb => by rw [Nat.zero_add] at hb ⊢; exact xO hb hCi hRi
    have hhi0 : cmG l i ≤ ce (fun q => !bef (befs ops.toList) i q) 0 (ancs P ops.toList) := by
     rw [hcmE];refine xD _ 0 fun j _ hb => ?_
     rw [Nat.zero_add] at hb ⊢;cases hbb : bef (befs ops.toList) i j with
     | false => rfl
     | true =>
      have := xO hbb hCi (hCi j hb);simp at this
    rcases zbf l hch i g hj (by rw [hgd]; exact ha) (by rw [hgd]; exact hm) with heq | hall
    ·rw [hgd] at heq;simp only at heq;exact ⟨_, hself.resolve_right (fun hh => hh (by omega)), h', he⟩
    ·rw [hgd] at hall;obtain ⟨h'', he''⟩ := hall k Hk hlo hhi hH;refine ⟨_, partOf _ _ (fun b o' hb hget => ?_) (fun m hmN hmem o' hget => ?_) (fun m hmem => zbb _ _ m hmem), h'', he''⟩
     ·rw [wX _ _ b fun j hj hh => by have := hhidlt i j hj; rw [hh, yl] at hb; omega] at hget
      rcases za3 (mksG n0 0 0 l) Hk.t b (n0 := n0) (k := k) with h1 | ⟨x, hx, _, h2, _⟩
      ·rw [← h1]; exact hget
      ·obtain ⟨m, q1, ⟨gm, q2, _⟩, _⟩ := zcW l 0 0 x X.mkeff hx;have : m < ops.size := by rw [← X.len]; exact (Lz0.1 q2).1
       rw [h2, yl, q1] at hb;omega
     ·rw [wX _ _ _ fun j hj hh => hmem (by rw [wU hh]; exact hj)] at hget
      rcases za3 (mksG n0 0 0 l) Hk.t (nm n0 m) (n0 := n0) (k := k) with h1 | ⟨x, hx, hkx, h2, h3⟩
      ·rw [h1] at hget;by_cases hle : k ≤ cmG l m
       ·rw [hkNone k Hk m hmN hH hle] at hget; cases hget
       ·show (if k ≤ cmG l m then _ else _) = _
        rw [if_neg hle]; exact hget
      ·obtain ⟨m', q1, ⟨gm, q2, q3, q4⟩, q5⟩ := zcW l 0 0 x X.mkeff hx;rw [Nat.zero_add] at q1 q4 q5;have hmm : m = m' := by rw [q1] at h2; exact wU h2
       subst hmm;rw [hget] at h3;cases h3;show (if k ≤ cmG l m then _ else _) = _
       rw [if_pos (by omega)]
       unfold obG;rw [q2];simp only [q3, cond_true];exact q4
   obtain ⟨X', hsub, h', he⟩ := hex;have hnone := FGn k Hk i o ho hm hH;rcases qa (a := { tmps := wj φ nt g.tr, defers := [] }) he Tr' with ⟨hw, hc⟩ | ⟨hw, hv, hh⟩
   ·rw [if_pos (by rw [hwant]; exact hw)]
    refine zd6 C HR (ar := { tmps := wj φ nt g.tr, defers := [] }) Tr' hexec (zmq P o.op hq _ _ _ _ _ _ hc hsub) ?_;intro φ2 w2 he2 H2 hv hle;exact next φ2 w2 Hk H he2.w (he2.mono (by omega)) hle (by rw [ceSame ha]; exact hH) (by rw [ceSame ha]; exact spcSame ha hnone) H2 hv (badK φ2 fun m hmN _ _ => he2 _ (by rw [yl]; omega))
   ·rw [if_neg (by rw [hwant, hw]; simp)]
    have := next φ w Hk H (Ext.refl _ _).w (Ext.refl _ _) (LzB _) (by rw [ceSame ha]; exact hH) (by rw [ceSame ha]; exact spcSame ha hnone) HR (by rw [hv]; exact fun _ hv => by cases hv) (badK φ fun _ _ _ _ => rfl)
    rw [hv] at this;exact ⟨fun f _ => trivial, this⟩
end
end Go.CE
end
section
namespace Go.CE
open Go.RowKit
section
variable {P : Program} {w0 : World} {S : Nat → Prop} {nt : Nat} {call : zh}
theorem zl9 (C : xq P call) (id : Nat) (ops : Array Oper) : w7 P w0 S nt call (.region id ops true) := by
 intro f fn round ro φ s s2 e a w Q hc R hr hQ;have hc : (bif P.follows .mixedOrders && kJ P ops (befs ops.toList) then zhr (qM P nt ops) else bif P.follows .mixedOrders && ui P ops (befs ops.toList) then zhq (wO P nt ops) else badF) call f fn round s = some (e, s2) := hc
 cases hb : (P.follows .mixedOrders && kJ P ops (befs ops.toList)) with
 | false =>
  rw [hb] at hc;simp only [cond_false] at hc;cases hb2 : (P.follows .mixedOrders && ui P ops (befs ops.toList)) with
  | false => rw [hb2] at hc; cases hc
  | true =>
   rw [hb2] at hc;obtain ⟨hm, hok⟩ := and2 hb2;obtain ⟨t, d, h⟩ := s;simp only [cond_true, zhq] at hc;have hlen : (wO P nt ops).length = ops.size := by
    have key : ∀ (os : List Oper) (i : Nat), (yW P nt ops (befs ops.toList) (ancs P ops.toList) i os).length = os.length := by
     intro os
     induction os with
     | nil => intro i; rfl
     | cons o os ih => intro i; simp only [yW, List.length_cons, ih]
    unfold wO;rw [key, Array.length_toList]
   rw [hlen] at hc;cases hev : evG call h.n.toNat 0 (wO P nt ops) t ⟨bn (Nat.add h.n.toNat ops.size), h.t⟩ with
   | none => rw [hev] at hc; cases hc
   | some p =>
    obtain ⟨l, t2, h2⟩ := p;rw [hev] at hc;simp only at hc;cases hch : wY call h.n.toNat (mksG h.n.toNat 0 0 l) (⟨bn (Nat.add h.n.toNat ops.size), h.t⟩ :: hsG l) l with
    | false => rw [hch] at hc; cases hc
    | true =>
     rw [hch] at hc;cases hc;have hkn : (bn (Nat.add h.n.toNat ops.size)).toNat = h.n.toNat + ops.size := zO _;have X := zqi (P := P) hev (fun m hm => by
      show h.t.get (nm h.n.toNat m) = none;cases hx : h.t.get (nm h.n.toNat m) with
      | none => rfl
      | some o => have := R.H.keys _ _ hx; rw [yl] at this; exact absurd this (by show ¬ h.n.toNat + m < h.n.toNat; omega))
     refine wpIn_region_any hm ?_;have hz : ∀ i, lst (Array.replicate ops.size false) i = false := by
      intro i;unfold lst;rw [Array.getD_eq_getD_getElem?, Array.getElem?_replicate];split <;> rfl
     have hzf : lst (Array.replicate ops.size false) = fun _ => false := funext hz
     have hfr : ∀ (r : List (Option BN × AVal)) (i : Nat) (t : Tr AVal), frL (fun _ => false) i r t = t := by
      intro r
      induction r with
      | nil => intro i t; rfl
      | cons p r ih => intro i t; obtain ⟨d, v⟩ := p; unfold frL; exact ih _ _
     have he := zb7 φ h.n.toNat ops.size;refine ziz (hh0 := h) (φ0 := φ) C hok X hch rfl hkn (fun a2 w2 hn => hQ a2 w2 (kV R hn)) ops.size (Array.replicate ops.size false) (zb8 φ h.n.toNat ops.size) a _ ⟨bn (Nat.add h.n.toNat ops.size), h.t⟩ ⟨bn (Nat.add h.n.toNat ops.size), h.t⟩
      (by simp) (by unfold unl; simp) ?_ he ?_ ?_ (R.H.drew.keep ops.size) (by rw [hkn]; omega) ?_ rfl (fun m hm _ => zkn φ _ _ m hm)
     ·intro i hi; rw [hz] at hi; cases hi
     ·rw [hzf, zaf]; rfl
     ·rw [hzf, zaf];exact ⟨rfl, fun _ _ => rfl, fun m hm => by rw [if_neg (by simp)]; exact X.fresh m hm⟩
     ·rw [hzf, hfr, hkn];exact R.T.ext he (by show h.n.toNat ≤ _; omega)
 | true =>
  rw [hb] at hc;obtain ⟨hm, hok⟩ := and2 hb;obtain ⟨t, d, h⟩ := s;simp only [cond_true, zhr] at hc;cases hev : evD call (qM P nt ops) t h with
  | none => rw [hev] at hc; cases hc
  | some p =>
   obtain ⟨l, t2, hs⟩ := p;rw [hev] at hc;simp only at hc;cases hch : wZ call hs l with
   | false => rw [hch] at hc; cases hc
   | true =>
    rw [hch] at hc;cases hc;refine wpIn_region_any hm ?_;have hz : ∀ i, lst (Array.replicate ops.size false) i = false := by
     intro i;unfold lst;rw [Array.getD_eq_getD_getElem?, Array.getElem?_replicate];split <;> rfl
    have hzf : lst (Array.replicate ops.size false) = fun _ => false := funext hz
    have hce : ∀ (es : List Bool) (i : Nat), ce (fun _ => false) i es = 0 := by
     intro es
     induction es with
     | nil => intro i; rfl
     | cons e es ih => intro i; unfold ce; simp [ih]
    have hfr : ∀ (r : List (Option BN × AVal)) (i : Nat) (t : Tr AVal), frL (fun _ => false) i r t = t := by
     intro r
     induction r with
     | nil => intro i t; rfl
     | cons p r ih => intro i t; obtain ⟨d, v⟩ := p; unfold frL; exact ih _ _
    obtain ⟨_, g2, _, _, _⟩ := zdh call _ _ _ _ _ _ hev;refine zkZ C hok hev hch (fun a2 w2 hn => hQ a2 w2 (kV R hn)) ops.size (Array.replicate ops.size false) φ a _ h (by simp) (by unfold unl; simp) ?_ (Ext.refl _ _) ?_ R.H.drew (LzB _) ?_ rfl
    ·intro i hi; rw [hz] at hi; cases hi
    ·rw [hzf, hce]; exact g2
    ·rw [hzf, hfr]; exact R.T
end
end Go.CE
end
