/-
  Lemmas: CEn, CEo, CEp, CEr, CEs, CEt, CEta, CEtb, CEtc, CEtd, CEte, CEtf, CEq, CEu, CEv. No condition.
-/
import Derived.Test.YtekpghfdglhonaaGreatDoorVa
import Derived.TacticsIn
import Derived.RangeFuncRecord
import Derived.RangeFuncNested
import Derived.LoopNIn
import Derived.OrdersIn
import Derived.RangeFuncLeaves
import Derived.RangeFuncIn
import Derived.Laws.Sem
section
namespace Go.CE
open Go.RowKit
section
variable {P:Program} {w0:World} {S:Nat→Prop} {φ:Phi} {h h2:AHeap} {w w2:World} {nt:Nat} {t:Tr AVal} {a:Act} {v:AVal} {call:zh}
theorem zc{x:Res}(hx:x=none)(e:x=some (v,h2)):False:=by rw[hx]at e;cases e
theorem zgT(H:HRel w0 S φ h w)(T:TRel φ nt h.n.toNat t a.tmps){isMax:Bool}{x:Operand}{xs:List Operand}{f:Opd}{fs:List Opd}(hx:cOpd x=some f)(hxs:vN xs=some fs){s:Array Value→Sem Value}
  (hs:∀args:Array Value,args.toList=(x::xs).map a.eval→s args=(xs.map a.eval).foldlM (if isMax then Builtin.max2 else Builtin.min2) (a.eval x)) {args:Array Value} (ha:args.toList=(x::xs).map a.eval)
  (e:y0 isMax f fs call t h=some (v,h2)):Done w0 S φ h v h2 ((do pure (Next.value (←s args)):Sem Next).run P w):=by
 unfold y0 at e;split at e
 ·rename_i k n hn;split at e
  ·rename_i m hm;cases e;refine Done.same H ?_ (zt ?_)
   ·exact trivial
   ·rw[hs args ha,(zm T hx).1,hn,zJ,zJ];exact zcr isMax k T hxs n m hm
  ·cases e
 ·cases e
def zjY:Op→Bool
 | .call c=>match c.callee with | .builtin _=>true|_=>false
 |_=>true
set_option maxHeartbeats 2000000 in
theorem zmM(H:HRel w0 S φ h w)(T:TRel φ nt h.n.toNat t a.tmps){o:Oper}(hp:zjY o.op=true)(e:cOp P o.op call t h=some (v,h2)):Done w0 S φ h v h2 ((execOp a.eval o).run P w):=by
 cases ho:o.op<;>rw[ho]at e hp<;>try (exact(zc rfl e).elim)
 case move x=>
  cases hx:cOpd x with
  |none=>simp only[cOp,hx]at e;exact(zc rfl e).elim
  |some f=>simp only[cOp,hx]at e;unfold execOp;simp only[ho];exact s_mv (call:=call) H (zm T hx) e
 case assign x=>
  cases hx:cOpd x with
  |none=>simp only[cOp,hx]at e;exact(zc rfl e).elim
  |some f=>simp only[cOp,hx]at e;unfold execOp;simp only[ho];exact s_mv (call:=call) H (zm T hx) e
 case pick c x y=>
  cases hc:cOpd c with
  |none=>simp only[cOp,hc]at e;exact(zc rfl e).elim
  |some fc=>
   cases hx:cOpd x with
   |none=>simp only[cOp,hc,hx]at e;exact(zc rfl e).elim
   |some fx=>
    cases hy:cOpd y with
    |none=>simp only[cOp,hc,hx,hy]at e;exact(zc rfl e).elim
    |some fy=>simp only[cOp,hc,hx,hy]at e;unfold execOp;simp only[ho];exact zqI (call:=call) H (zm T hc).1 (zm T hx) (zm T hy) e
 case alloc ty=>
  cases hz:z9 P ty with
  |none=>simp only[cOp,hz]at e;cases hb:kN P ty<;>rw[hb]at e<;>exact(zc rfl e).elim
  |some z=>
   simp only[cOp,hz]at e;unfold execOp;simp only[ho];cases hb:kN P ty with
   |false=>rw[hb]at e;exact zoS (call:=call) (t:=t) H hz e
   |true=>rw[hb]at e;exact zmC (call:=call) (t:=t) H hz e
 case box ty x=>
  cases hx:cOpd x with
  |none=>simp only[cOp,hx]at e;exact(zc rfl e).elim
  |some f=>simp only[cOp,hx]at e;unfold execOp;simp only[ho];exact zsB (call:=call) (t:=t) H (zm T hx) e
 case build ty parts=>
  cases hu:P.underlying ty with
  |none=>simp only[cOp,hu]at e;exact(zc rfl e).elim
  |some d=>
   cases d<;>try (cases hz:z9 P ty<;>simp only[cOp,hu,hz]at e<;>exact(zc rfl e).elim)
   case array len el=>
    cases hz:z9 P ty with
    |none=>simp only[cOp,hu,hz]at e;exact(zc rfl e).elim
    |some z=>
     cases hi:P.info? el with
     |none=>simp only[cOp,hu,hz,hi]at e;exact(zc rfl e).elim
     |some i=>
      cases hr:xc i.size parts.toList with
      |none=>simp only[cOp,hu,hz,hi,hr]at e;exact(zc rfl e).elim
      |some r=>simp only[cOp,hu,hz,hi,hr]at e;unfold execOp;simp only[ho];exact zmB (call:=call) (t:=t) H T hu hz hi hr e
   case struct fs=>
    cases hz:z9 P ty with
    |none=>simp only[cOp,hu,hz]at e;exact(zc rfl e).elim
    |some z=>
     cases hall:j9 P fs.toList with
     |false=>simp only[cOp,hu,hz,hall]at e;exact(zc rfl e).elim
     |true=>
      cases hr:xE P fs parts.toList with
      |none=>simp only[cOp,hu,hz,hall,hr]at e;exact(zc rfl e).elim
      |some r=>simp only[cOp,hu,hz,hall,hr]at e;unfold execOp;simp only[ho];exact zmA (call:=call) (t:=t) H T hu hz hall hr e
 case buildSlice ty len parts=>
  cases hu:P.underlying ty with
  |none=>simp only[cOp,hu]at e;exact(zc rfl e).elim
  |some d=>
   cases d<;>try (simp only[cOp,hu]at e;exact(zc rfl e).elim)
   case slice el=>
    cases hi:P.info? el with
    |none=>simp only[cOp,hu,hi]at e;exact(zc rfl e).elim
    |some i=>
     simp only[cOp,hu,hi]at e;cases hle:Nat.ble (len*i.size) 16777216 with
     |false=>rw[hle]at e;exact(zc rfl e).elim
     |true=>
      rw[hle]at e;simp only[cond_true]at e;cases hr:xc i.size parts.toList with
      |none=>
       rw[hr]at e;exfalso
       revert e
       cases hb:Nat.beq (len*i.size) 0 with
       |true=>simp only[cond_true,Bool.true_or];intro e;exact zc rfl e
       |false=>
        cases hz:z9 P el with
        |none=>simp only[cond_false,Option.map_none];intro e;exact zc rfl e
        |some z=>
         simp only[cond_false,Option.map_some,Bool.false_or];cases hzl:Nat.beq z.cells.length i.size<;>(intro e;exact zc rfl e)
      |some r=>
       rw[hr]at e;unfold execOp;simp only[ho];cases hb:Nat.beq (len*i.size) 0 with
       |true=>
        rw[hb]at e;simp only[cond_true,Bool.true_or]at e;exact zgU (call:=call) (t:=t) H T hu hi (zT hle) (.inl ⟨beq_true hb,rfl⟩) hr e
       |false=>
        rw[hb]at e;cases hz:z9 P el with
        |none=>simp only[hz,cond_false,Option.map_none]at e;exact(zc rfl e).elim
        |some z=>
         simp only[hz,cond_false,Option.map_some,Bool.false_or]at e;cases hzl:Nat.beq z.cells.length i.size with
         |false=>rw[hzl]at e;exact(zc rfl e).elim
         |true=>
          rw[hzl]at e;exact zgU (call:=call) (t:=t) H T hu hi (zT hle) (.inr ⟨beq_false hb,z,hz,rfl,beq_true hzl⟩) hr e
 case load ty x=>
  cases hs:xN P ty with
  |none=>simp only[cOp,hs]at e;exact(zc rfl e).elim
  |some n=>
   cases hx:cOpd x with
   |none=>simp only[cOp,hs,hx]at e;exact(zc rfl e).elim
   |some f=>simp only[cOp,hs,hx]at e;unfold execOp;simp only[ho];exact zqL (call:=call) (t:=t) H hs (zm T hx).1 e
 case store ty x y=>
  cases hi:P.info? ty with
  |none=>simp only[cOp,hi]at e;exact(zc rfl e).elim
  |some i=>
   cases hx:cOpd x with
   |none=>simp only[cOp,hi,hx]at e;exact(zc rfl e).elim
   |some f=>
    cases hy:cOpd y with
    |none=>simp only[cOp,hi,hx,hy]at e;exact(zc rfl e).elim
    |some g=>simp only[cOp,hi,hx,hy]at e;unfold execOp;simp only[ho];exact zoJ (call:=call) (t:=t) H hi (zm T hx).1 (zm T hy) e
 case nilCheck x=>
  cases hx:cOpd x with
  |none=>simp only[cOp,hx]at e;exact(zc rfl e).elim
  |some f=>simp only[cOp,hx]at e;exact zoL (call:=call) (t:=t) H ho (zm T hx) e
 case unOp op ty x=>
  cases op<;>try (exact(zc rfl e).elim)
  case not=>
   cases hx:cOpd x with
   |none=>simp only[cOp,hx]at e;exact(zc rfl e).elim
   |some f=>simp only[cOp,hx]at e;unfold execOp;simp only[ho];exact zsw (call:=call) (t:=t) H (zm T hx).1 e
  case neg=>
   cases hx:cOpd x with
   |none=>simp only[cOp,hx]at e;exact(zc rfl e).elim
   |some f=>simp only[cOp,hx]at e;unfold execOp;simp only[ho];exact zsx (call:=call) (t:=t) H (zm T hx).1 e
 case convert s d x=>
  cases hus:P.underlying s with
  |none=>simp only[cOp,hus]at e;exact(zc rfl e).elim
  |some ds=>
   cases hud:P.underlying d with
   |none=>simp only[cOp,hus,hud]at e;cases ds<;>exact(zc rfl e).elim
   |some dd=>
    cases ds<;>try (simp only[cOp,hus,hud]at e;exact(zc rfl e).elim)
    case string=>
     cases dd<;>try (simp only[cOp,hus,hud]at e;exact(zc rfl e).elim)
     case slice el=>
      cases hb:yE P el with
      |false=>simp only[cOp,hus,hud,hb]at e;exact(zc rfl e).elim
      |true=>
       cases hx:cOpd x with
       |none=>simp only[cOp,hus,hud,hb,hx]at e;exact(zc rfl e).elim
       |some f=>simp only[cOp,hus,hud,hb,hx]at e;unfold execOp;simp only[ho];exact zsD (call:=call) (t:=t) (x:=f) H hus hud (zbn hb) (zm T hx).1 e
    case slice el=>
     cases dd<;>try (simp only[cOp,hus,hud]at e;exact(zc rfl e).elim)
     case string=>
      cases hb:yE P el with
      |false=>simp only[cOp,hus,hud,hb]at e;exact(zc rfl e).elim
      |true=>
       cases hx:cOpd x with
       |none=>simp only[cOp,hus,hud,hb,hx]at e;exact(zc rfl e).elim
       |some f=>simp only[cOp,hus,hud,hb,hx]at e;unfold execOp;simp only[ho];exact zsF (call:=call) (t:=t) (x:=f) H hus (zbn hb) hud (zm T hx).1 e
    case pointer te=>
     cases dd<;>try (simp only[cOp,hus,hud]at e;exact(zc rfl e).elim)
     case unsafePointer=>
      cases hb:xO P te with
      |false=>simp only[cOp,hus,hud,hb]at e;exact(zc rfl e).elim
      |true=>
       cases hx:cOpd x with
       |none=>simp only[cOp,hus,hud,hb,hx]at e;exact(zc rfl e).elim
       |some f=>simp only[cOp,hus,hud,hb,hx]at e;unfold execOp;simp only[ho];exact zsE (call:=call) (t:=t) (x:=f) H hus hud hb (zm T hx) e
    case unsafePointer=>
     cases dd<;>try (simp only[cOp,hus,hud]at e;exact(zc rfl e).elim)
     case pointer u=>
      cases hb:ziL P u with
      |false=>simp only[cOp,hus,hud,hb]at e;exact(zc rfl e).elim
      |true=>
       cases hx:cOpd x with
       |none=>simp only[cOp,hus,hud,hb,hx]at e;exact(zc rfl e).elim
       |some f=>simp only[cOp,hus,hud,hb,hx]at e;unfold execOp;simp only[ho];exact zsC (call:=call) (t:=t) (x:=f) H hus hud hb (zm T hx) e
    case int k0=>
     cases dd<;>try (simp only[cOp,hus,hud]at e;exact(zc rfl e).elim)
     case int k=>
      cases hx:cOpd x with
      |none=>simp only[cOp,hus,hud,hx]at e;exact(zc rfl e).elim
      |some f=>simp only[cOp,hus,hud,hx]at e;unfold execOp;simp only[ho];exact zqR (call:=call) (t:=t) H hus hud (zm T hx).1 e
 case makeFunc fn first captured=>
  cases fn<;>try (exact(zc rfl e).elim)
  case func f=>
   cases hf:first.isEmpty with
   |false=>simp only[cOp,hf]at e;exact(zc rfl e).elim
   |true=>
    cases hc:vN captured.toList with
    |none=>simp only[cOp,hf,hc]at e;exact(zc rfl e).elim
    |some l=>
     simp only[cOp,hf,hc]at e;unfold execOp;simp only[ho];have h1:first=#[]:=by simpa using hf
     have h2':captured.map a.eval=(captured.toList.map a.eval).toArray:=by apply Array.ext';simp
     have h3:first.map a.eval=#[]:=by rw[h1];simp
     rw[h2',h3];exact zqK (call:=call) (t:=t) H (za4 T hc) e
 case makeMap ty r=>
  cases r with
  |none=>unfold execOp;simp only[ho];exact zoM (call:=call) (t:=t) H e
  |some x=>exact(zc rfl e).elim
 case makeSlice ty l c=>
  cases hu:P.underlying ty with
  |none=>simp only[cOp,hu]at e;exact(zc rfl e).elim
  |some d=>
   cases d<;>try (simp only[cOp,hu]at e;exact(zc rfl e).elim)
   case slice el=>
    cases hi:P.info? el with
    |none=>simp only[cOp,hu,hi]at e;exact(zc rfl e).elim
    |some i=>
     cases hz:z9 P el with
     |none=>simp only[cOp,hu,hi,hz]at e;exact(zc rfl e).elim
     |some z=>
      simp only[cOp,hu,hi,hz]at e;cases hb:(Nat.beq z.cells.length i.size && !Nat.beq i.size 0) with
      |false=>rw[hb]at e;exact(zc rfl e).elim
      |true=>
       rw[hb]at e;simp only[LzC,Bool.not_eq_true']at hb;cases hl:cOpd l with
       |none=>simp only[hl]at e;exact(zc rfl e).elim
       |some fl=>
        cases hc:cOpd c with
        |none=>simp only[hl,hc]at e;exact(zc rfl e).elim
        |some fc=>
         simp only[hl,hc]at e;unfold execOp;simp only[ho];exact zjE (call:=call) (t:=t) H hu hi hz (beq_true hb.1) (beq_false hb.2) (zm T hl).1 (zm T hc).1 e
 case slice ty x lo hi mx=>
  cases hu:P.underlying ty with
  |none=>simp only[cOp,hu]at e;exact(zc rfl e).elim
  |some d=>
   cases d<;>try (simp only[cOp,hu]at e;exact(zc rfl e).elim)
   case slice el=>
    cases hi':P.info? el with
    |none=>simp only[cOp,hu,hi']at e;exact(zc rfl e).elim
    |some i=>
     simp only[cOp,hu,hi']at e;cases hb:(mx.isSome && !hi.isSome) with
     |true=>rw[hb]at e;exact(zc rfl e).elim
     |false=>
      rw[hb]at e;cases hx:cOpd x with
      |none=>simp only[hx]at e;exact(zc rfl e).elim
      |some fx=>
       cases hlo:cOpt lo with
       |none=>simp only[hx,hlo]at e;exact(zc rfl e).elim
       |some fl=>
        cases hhi:cOpt hi with
        |none=>simp only[hx,hlo,hhi]at e;exact(zc rfl e).elim
        |some fh=>
         cases hmx:cOpt mx with
         |none=>simp only[hx,hlo,hhi,hmx]at e;exact(zc rfl e).elim
         |some fm=>
          simp only[hx,hlo,hhi,hmx]at e;unfold execOp;simp only[ho];exact zoK (call:=call) (t:=t) H T hu hi' hx hlo hhi hmx (fun hm=>by
           cases hh:hi.isSome with
           |true=>rfl
           |false=>rw[hm,hh]at hb;cases hb) e
   case array len el=>
    simp only[cOp,hu]at e;cases hi':P.info? el with
    |none=>rw[hi']at e;exact(zc rfl e).elim
    |some i=>
     rw[hi']at e;simp only at e;cases hb:(mx.isSome && !hi.isSome) with
     |true=>rw[hb]at e;exact(zc rfl e).elim
     |false=>
      rw[hb]at e;cases hx:cOpd x with
      |none=>simp only[hx]at e;exact(zc rfl e).elim
      |some fx=>
       cases hlo:cOpt lo with
       |none=>simp only[hx,hlo]at e;exact(zc rfl e).elim
       |some fl=>
        cases hhi:cOpt hi with
        |none=>simp only[hx,hlo,hhi]at e;exact(zc rfl e).elim
        |some fh=>
         cases hmx:cOpt mx with
         |none=>simp only[hx,hlo,hhi,hmx]at e;exact(zc rfl e).elim
         |some fm=>
          simp only[hx,hlo,hhi,hmx]at e;unfold execOp;simp only[ho];exact zmw (call:=call) (t:=t) H T hu hi' hx hlo hhi hmx (fun hm=>by
           cases hh:hi.isSome with
           |true=>rfl
           |false=>rw[hm,hh]at hb;cases hb) e
   case string=>
    simp only[cOp,hu]at e;cases mx with
    |some m=>exact(zc rfl e).elim
    |none=>
     simp only[Option.isSome_none,cond_false]at e;cases hx:cOpd x with
     |none=>simp only[hx]at e;exact(zc rfl e).elim
     |some fx=>
      cases hlo:cOpt lo with
      |none=>simp only[hx,hlo]at e;exact(zc rfl e).elim
      |some fl=>
       cases hhi:cOpt hi with
       |none=>simp only[hx,hlo,hhi]at e;exact(zc rfl e).elim
       |some fh=>
        simp only[hx,hlo,hhi]at e;unfold execOp;simp only[ho];exact zmv (call:=call) (t:=t) H T hu hx hlo hhi e
 case fieldAddr ty x f=>
  cases hu:P.underlying ty with
  |none=>simp only[cOp,hu]at e;exact(zc rfl e).elim
  |some d=>
   cases d<;>try (simp only[cOp,hu]at e;exact(zc rfl e).elim)
   case struct fs=>
    cases hf:fs[f]? with
    |none=>simp only[cOp,hu,hf]at e;exact(zc rfl e).elim
    |some fd=>
     cases hi:P.info? fd.type with
     |none=>simp only[cOp,hu,hf,hi]at e;exact(zc rfl e).elim
     |some i=>
      simp only[cOp,hu,hf,hi]at e;cases hb:Nat.beq i.size 0 with
      |true=>rw[hb]at e;exact(zc rfl e).elim
      |false=>
       rw[hb]at e;cases hx:cOpd x with
       |none=>simp only[hx]at e;exact(zc rfl e).elim
       |some g=>simp only[hx]at e;unfold execOp;simp only[ho];exact zqP (call:=call) (t:=t) H hu hf hi hb (zm T hx) e
 case field ty x f=>
  cases hu:P.underlying ty with
  |none=>simp only[cOp,hu]at e;exact(zc rfl e).elim
  |some d=>
   cases d<;>try (simp only[cOp,hu]at e;exact(zc rfl e).elim)
   case struct fs=>
    cases hf:fs[f]? with
    |none=>simp only[cOp,hu,hf]at e;exact(zc rfl e).elim
    |some fd=>
     cases hx:cOpd x with
     |none=>simp only[cOp,hu,hf,hx]at e;exact(zc rfl e).elim
     |some g=>
      cases hs:xN P fd.type with
      |none=>simp only[cOp,hu,hf,hx,hs]at e;exact(zc rfl e).elim
      |some n=>simp only[cOp,hu,hf,hx,hs]at e;unfold execOp;simp only[ho];exact zoQ (call:=call) (t:=t) H hu hf hs (zm T hx) e
 case indexAddr ty x i=>
  cases hu:P.underlying ty with
  |none=>simp only[cOp,hu]at e;exact(zc rfl e).elim
  |some d=>
   cases d<;>try (simp only[cOp,hu]at e;exact(zc rfl e).elim)
   case slice el=>
    cases hi:P.info? el with
    |none=>simp only[cOp,hu,hi]at e;exact(zc rfl e).elim
    |some info=>
     cases hx:cOpd x with
     |none=>simp only[cOp,hu,hi,hx]at e;exact(zc rfl e).elim
     |some g=>
      cases hj:cOpd i with
      |none=>simp only[cOp,hu,hi,hx,hj]at e;exact(zc rfl e).elim
      |some k=>simp only[cOp,hu,hi,hx,hj]at e;unfold execOp;simp only[ho];exact zsy (call:=call) (t:=t) H hu hi (zm T hx) (zm T hj).1 e
   case array len el=>
    cases hi:P.info? el with
    |none=>simp only[cOp,hu,hi]at e;exact(zc rfl e).elim
    |some info=>
     cases hx:cOpd x with
     |none=>simp only[cOp,hu,hi,hx]at e;exact(zc rfl e).elim
     |some g=>
      cases hj:cOpd i with
      |none=>simp only[cOp,hu,hi,hx,hj]at e;exact(zc rfl e).elim
      |some k=>simp only[cOp,hu,hi,hx,hj]at e;unfold execOp;simp only[ho];exact zoO (call:=call) (t:=t) H hu hi (zm T hx) (zm T hj).1 e
 case index ty x i=>
  cases hu:P.underlying ty with
  |none=>simp only[cOp,hu]at e;exact(zc rfl e).elim
  |some d=>
   cases d<;>try (simp only[cOp,hu]at e;exact(zc rfl e).elim)
   case array len el=>
    cases hi:P.info? el with
    |none=>simp only[cOp,hu,hi]at e;exact(zc rfl e).elim
    |some info=>
     cases hs:xN P el with
     |none=>simp only[cOp,hu,hi,hs]at e;exact(zc rfl e).elim
     |some n=>
      cases hx:cOpd x with
      |none=>simp only[cOp,hu,hi,hs,hx]at e;exact(zc rfl e).elim
      |some g=>
       cases hj:cOpd i with
       |none=>simp only[cOp,hu,hi,hs,hx,hj]at e;exact(zc rfl e).elim
       |some k=>simp only[cOp,hu,hi,hs,hx,hj]at e;unfold execOp;simp only[ho];exact zoP (call:=call) (t:=t) H hu hi hs (zm T hx) (zm T hj).1 e
   case string=>
    cases hx:cOpd x with
    |none=>simp only[cOp,hu,hx]at e;exact(zc rfl e).elim
    |some g=>
     cases hj:cOpd i with
     |none=>simp only[cOp,hu,hx,hj]at e;exact(zc rfl e).elim
     |some k=>simp only[cOp,hu,hx,hj]at e;unfold execOp;simp only[ho];exact zoN (call:=call) (t:=t) H hu (zm T hx).1 (zm T hj).1 e
 case lookup ty m k ok=>
  cases hu:P.underlying ty with
  |none=>simp only[cOp,hu]at e;exact(zc rfl e).elim
  |some d=>
   cases d<;>try (simp only[cOp,hu]at e;exact(zc rfl e).elim)
   case map kt el=>
    cases hk:keyT P kt with
    |none=>simp only[cOp,hu,hk]at e;exact(zc rfl e).elim
    |some ks=>
     cases hz:z9 P el with
     |none=>simp only[cOp,hu,hk,hz]at e;exact(zc rfl e).elim
     |some z=>
      cases hm:cOpd m with
      |none=>simp only[cOp,hu,hk,hz,hm]at e;exact(zc rfl e).elim
      |some fm=>
       cases hkk:cOpd k with
       |none=>simp only[cOp,hu,hk,hz,hm,hkk]at e;exact(zc rfl e).elim
       |some fk=>simp only[cOp,hu,hk,hz,hm,hkk]at e;unfold execOp;simp only[ho];exact zmy (call:=call) (t:=t) H hu hk hz (zm T hm).1 (zm T hkk).1 e
 case mapUpdate ty m k x=>
  cases hu:P.underlying ty with
  |none=>simp only[cOp,hu]at e;exact(zc rfl e).elim
  |some d=>
   cases d<;>try (simp only[cOp,hu]at e;exact(zc rfl e).elim)
   case map kt el=>
    cases hk:keyT P kt with
    |none=>simp only[cOp,hu,hk]at e;exact(zc rfl e).elim
    |some ks=>
     cases hm:cOpd m with
     |none=>simp only[cOp,hu,hk,hm]at e;exact(zc rfl e).elim
     |some fm=>
      cases hkk:cOpd k with
      |none=>simp only[cOp,hu,hk,hm,hkk]at e;exact(zc rfl e).elim
      |some fk=>
       cases hx:cOpd x with
       |none=>simp only[cOp,hu,hk,hm,hkk,hx]at e;exact(zc rfl e).elim
       |some fx=>simp only[cOp,hu,hk,hm,hkk,hx]at e;unfold execOp;simp only[ho];exact znU (call:=call) (t:=t) H hu hk (zm T hm).1 (zm T hkk) (zm T hx) e
 case insert ty m k x=>
  cases hu:P.underlying ty with
  |none=>simp only[cOp,hu]at e;exact(zc rfl e).elim
  |some d=>
   cases d<;>try (simp only[cOp,hu]at e;exact(zc rfl e).elim)
   case map kt el=>
    cases hk:keyT P kt with
    |none=>simp only[cOp,hu,hk]at e;exact(zc rfl e).elim
    |some ks=>
     cases hm:cOpd m with
     |none=>simp only[cOp,hu,hk,hm]at e;exact(zc rfl e).elim
     |some fm=>
      cases hkk:cOpd k with
      |none=>simp only[cOp,hu,hk,hm,hkk]at e;exact(zc rfl e).elim
      |some fk=>
       cases hx:cOpd x with
       |none=>simp only[cOp,hu,hk,hm,hkk,hx]at e;exact(zc rfl e).elim
       |some fx=>simp only[cOp,hu,hk,hm,hkk,hx]at e;unfold execOp;simp only[ho];exact znU (call:=call) (t:=t) H hu hk (zm T hm).1 (zm T hkk) (zm T hx) e
 case mapEntry ty m k=>
  cases hu:P.underlying ty with
  |none=>simp only[cOp,hu]at e;exact(zc rfl e).elim
  |some d=>
   cases d<;>try (simp only[cOp,hu]at e;exact(zc rfl e).elim)
   case map kt el=>
    cases hk:keyT P kt with
    |none=>simp only[cOp,hu,hk]at e;exact(zc rfl e).elim
    |some ks=>
     cases hz:z9 P el with
     |none=>simp only[cOp,hu,hk,hz]at e;exact(zc rfl e).elim
     |some z=>
      cases hm:cOpd m with
      |none=>simp only[cOp,hu,hk,hz,hm]at e;exact(zc rfl e).elim
      |some fm=>
       cases hkk:cOpd k with
       |none=>simp only[cOp,hu,hk,hz,hm,hkk]at e;exact(zc rfl e).elim
       |some fk=>simp only[cOp,hu,hk,hz,hm,hkk]at e;unfold execOp;simp only[ho];exact zmx (call:=call) (t:=t) H hu hk hz (zm T hm).1 (zm T hkk) e
 case entryStore ty m s x=>
  cases hm:cOpd m with
  |none=>simp only[cOp,hm]at e;exact(zc rfl e).elim
  |some fm=>
   cases hs:cOpd s with
   |none=>simp only[cOp,hm,hs]at e;exact(zc rfl e).elim
   |some fs=>
    cases hx:cOpd x with
    |none=>simp only[cOp,hm,hs,hx]at e;exact(zc rfl e).elim
    |some fx=>simp only[cOp,hm,hs,hx]at e;unfold execOp;simp only[ho];exact zmz (call:=call) (t:=t) H (zm T hm).1 (zm T hs).1 (zm T hx) e
 case extract x i=>
  cases hx:cOpd x with
  |none=>simp only[cOp,hx]at e;exact(zc rfl e).elim
  |some f=>simp only[cOp,hx]at e;unfold execOp;simp only[ho];exact zjF (call:=call) (t:=t) H (zm T hx) e
 case binOp op ty x y yt=>
  cases hu:P.underlying ty with
  |none=>simp only[cOp,hu]at e;exact(zc rfl e).elim
  |some d=>
   cases hx:cOpd x with
   |none=>
    exfalso
    revert e
    cases d<;>cases op<;>simp only[cOp,hu,hx]<;>first|(intro e;exact zc rfl e)|(cases xO P _<;>(intro e;exact zc rfl e))|(cases P.eqGuardType P.depth ty<;>cases keyT P ty<;>(intro e;exact zc rfl e))
   |some fx=>
    cases hy:cOpd y with
    |none=>
     exfalso
     revert e
     cases d<;>cases op<;>simp only[cOp,hu,hx,hy]<;>first|(intro e;exact zc rfl e)|(cases xO P _<;>(intro e;exact zc rfl e))|(cases P.eqGuardType P.depth ty<;>cases keyT P ty<;>(intro e;exact zc rfl e))
    |some fy=>
     have ox:=zm T hx;have oy:=zm T hy;unfold execOp;simp only[ho];have eq_case:(∀k,d≠.int k)→d≠.string→∀neg:Bool,op=(bif neg then .neq else .eql)→
       zY (bif P.eqGuardType P.depth ty then none else do pure (opEq (←keyT P ty) neg fx fy)) call t h=some (v,h2)→
       Done w0 S φ h v h2 ((do pure (Next.value (←(do eqGuard op ty x y (a.eval x) (a.eval y);binOp op ty (a.eval x) (a.eval y)))):Sem Next).run P w):=by
      intro hni hns neg hop e;cases hg:P.eqGuardType P.depth ty with
      |true=>rw[hg]at e;exact(zc rfl e).elim
      |false=>
       rw[hg]at e;cases hk:keyT P ty with
       |none=>rw[hk]at e;exact(zc rfl e).elim
       |some ks=>
        rw[hk]at e;exact s_eq (call:=call) H hop hg hk (fun j hj=>hni j (by rw[hu]at hj;exact Option.some.inj hj)) (fun hj=>hns (by rw[hu]at hj;exact Option.some.inj hj)) ox.1 oy.1 e
     cases d
     case int k=>
      by_cases h1:op=.shl
      ·subst h1;simp only[cOp,hu,hx,hy]at e;exact zjC (call:=call) H (.inl ⟨rfl,rfl⟩) ox.1 oy.1 e
      ·by_cases h2':op=.shr
       ·subst h2';simp only[cOp,hu,hx,hy]at e;exact zjC (call:=call) H (.inr ⟨rfl,rfl⟩) ox.1 oy.1 e
       ·have e':zao (vK op) fx fy call t h=some (v,h2):=by
         cases op<;>simp only[cOp,hu,hx,hy]at e<;>first|exact e|exact absurd rfl h1|exact absurd rfl h2'
        exact zsz (call:=call) H ox.1 oy.1 e'
     case string=>simp only[cOp,hu,hx,hy]at e;exact zsv (call:=call) H ox.1 oy.1 e
     case slice el=>
      cases op<;>simp only[cOp,hu,hx,hy]at e<;>try (exact(zc rfl e).elim)
      case eql=>exact znS (call:=call) H (neg:=false) rfl hu ox.1 oy.1 e
      case neq=>exact znS (call:=call) H (neg:=true) rfl hu ox.1 oy.1 e
     case pointer te=>
      cases hsz:xO P te with
      |false=>cases op<;>simp only[cOp,hu,hx,hy,hsz]at e<;>exact(zc rfl e).elim
      |true=>
       cases op<;>simp only[cOp,hu,hx,hy,hsz]at e<;>try (exact(zc rfl e).elim)
       case eql=>exact zjD (call:=call) H (neg:=false) rfl hu hsz ox.1 oy.1 e
       case neq=>exact zjD (call:=call) H (neg:=true) rfl hu hsz ox.1 oy.1 e
     case func ps rs va=>
      cases op<;>simp only[cOp,hu,hx,hy]at e<;>try (exact(zc rfl e).elim)
      case eql=>exact znT (call:=call) H (neg:=false) rfl hu ox.1 oy.1 e
      case neq=>exact znT (call:=call) H (neg:=true) rfl hu ox.1 oy.1 e
     all_goals
      cases op<;>simp only[cOp,hu,hx,hy]at e<;>first
       |exact eq_case (by intro k hk;cases hk) (by intro hk;cases hk) false rfl e
       |exact eq_case (by intro k hk;cases hk) (by intro hk;cases hk) true rfl e
       |(exfalso;revert e;cases P.eqGuardType P.depth ty<;>(intro e;exact zc rfl e))
 case call c=>
  obtain⟨callee,args,argTypes⟩:=c;cases callee with
  |value f=>cases hp
  |invoke r m=>cases hp
  |builtin b=>
   cases b<;>try (simp only[cOp]at e;exact(zc rfl e).elim)
   case len=>
    cases hat:argTypes[0]? with
    |none=>simp only[cOp,hat]at e;exact(zc rfl e).elim
    |some ty=>
     cases har:args[0]? with
     |none=>simp only[cOp,hat,har]at e;exact(zc rfl e).elim
     |some x=>
      cases hu:P.underlying ty with
      |none=>simp only[cOp,hat,har,hu]at e;exact(zc rfl e).elim
      |some d=>
       have ha:(args.map a.eval)[0]? = some (a.eval x):=by simp[har]
       unfold execOp;simp only[ho];simp only[resolve,invoke,builtin,pure,bind,Sem.bind];cases d<;>try (simp only[cOp,hat,har,hu]at e;exact(zc rfl e).elim)
       case array len el=>
        simp only[cOp,hat,har,hu]at e;cases e;refine Done.same H ?_ (zt ?_)
        ·exact trivial
        ·simp[Builtin.len_,hat,ha,run_underlying hu,goInt];rfl
       case string=>
        cases hx:cOpd x with
        |none=>simp only[cOp,hat,har,hu,hx]at e;exact(zc rfl e).elim
        |some f=>simp only[cOp,hat,har,hu,hx]at e;exact zqM (call:=call) H hu (zm T hx).1 hat ha e
       case slice el=>
        cases hx:cOpd x with
        |none=>simp only[cOp,hat,har,hu,hx]at e;exact(zc rfl e).elim
        |some f=>simp only[cOp,hat,har,hu,hx]at e;exact zqO (call:=call) H hu (zm T hx).1 hat ha e
       case map k el=>
        cases hx:cOpd x with
        |none=>simp only[cOp,hat,har,hu,hx]at e;exact(zc rfl e).elim
        |some f=>simp only[cOp,hat,har,hu,hx]at e;exact zqN (call:=call) H hu (zm T hx).1 hat ha e
   case append=>
    obtain⟨ats⟩:=argTypes;obtain⟨ars⟩:=args;cases ats with
    |nil=>simp only[cOp]at e;exact(zc rfl e).elim
    |cons ty ats=>
     cases ats with
     |nil=>simp only[cOp]at e;exact(zc rfl e).elim
     |cons tx ats=>
      cases ats with
      |cons _ _=>simp only[cOp]at e;exact(zc rfl e).elim
      |nil=>
       cases ars with
       |nil=>simp only[cOp]at e;exact(zc rfl e).elim
       |cons s ars=>
        cases ars with
        |nil=>simp only[cOp]at e;exact(zc rfl e).elim
        |cons x ars=>
         cases ars with
         |cons _ _=>simp only[cOp]at e;exact(zc rfl e).elim
         |nil=>
          simp only[cOp]at e;cases hu:P.underlying ty with
          |none=>rw[hu]at e;exact(zc rfl e).elim
          |some d=>
           rw[hu]at e;cases d<;>try (exact(zc rfl e).elim)
           case slice el=>
            simp only at e;cases hi:P.info? el with
            |none=>rw[hi]at e;exact(zc rfl e).elim
            |some i=>
             cases hz:z9 P el with
             |none=>rw[hi,hz]at e;exact(zc rfl e).elim
             |some z=>
              rw[hi,hz]at e;simp only at e;cases hb:(Nat.beq z.cells.length i.size && !Nat.beq i.size 0) with
              |false=>rw[hb]at e;exact(zc rfl e).elim
              |true=>
               rw[hb]at e;simp only[LzC]at hb;cases hu2:P.underlying tx with
               |none=>rw[hu2]at e;exact(zc rfl e).elim
               |some d2=>
                rw[hu2]at e;cases hs:cOpd s with
                |none=>rw[hs]at e;cases d2<;>first|exact(zc rfl e).elim|(cases hq:Nat.beq i.size 1<;>simp only[hq]at e<;>exact(zc rfl e).elim)|(cases hq:(yE P el&&Nat.beq i.size 1)<;>simp only[hq]at e<;>exact(zc rfl e).elim)
                |some fs=>
                 cases hx:cOpd x with
                 |none=>rw[hs,hx]at e;cases d2<;>first|exact(zc rfl e).elim|(cases hq:Nat.beq i.size 1<;>simp only[hq]at e<;>exact(zc rfl e).elim)|(cases hq:(yE P el&&Nat.beq i.size 1)<;>simp only[hq]at e<;>exact(zc rfl e).elim)
                 |some fx=>
                  rw[hs,hx]at e;unfold execOp;simp only[ho];simp only[resolve,invoke,builtin,pure,bind,Sem.bind];have hmm:Array.map a.eval ⟨[s,x]⟩=#[a.eval s,a.eval x]:=by simp
                  rw[hmm];cases d2<;>try (exact(zc rfl e).elim)
                  case slice el2=>
                   simp only at e;cases hq:yE P el&&Nat.beq i.size 1 with
                   |false=>rw[hq]at e;exact kj (call:=call) H hu hi hz (beq_true hb.1) (.inl ⟨rfl,_,hu2⟩) (zm T hs) (zm T hx).1 e
                   |true=>
                    rw[hq]at e;rw[LzC]at hq;exact zjH (call:=call) H hu hi hz (beq_true hb.1) (beq_true hq.2) hu2 (zm T hs) (zm T hx).1 e
                  case string=>
                   simp only at e;cases h1:Nat.beq i.size 1 with
                   |false=>rw[h1]at e;exact(zc rfl e).elim
                   |true=>rw[h1]at e;exact zjG (call:=call) H hu hi hz (beq_true hb.1) (beq_true h1) hu2 (zm T hs) (zm T hx).1 e
   case unsafeSliceData=>
    obtain⟨ars⟩:=args;cases ars with
    |nil=>simp only[cOp]at e;exact(zc rfl e).elim
    |cons x ars=>
     cases ars with
     |cons _ _=>simp only[cOp]at e;exact(zc rfl e).elim
     |nil=>
      simp only[cOp]at e;cases hx:cOpd x with
      |none=>rw[hx]at e;exact(zc rfl e).elim
      |some f=>
       rw[hx]at e;unfold execOp;simp only[ho];simp only[resolve,invoke,builtin,pure,bind,Sem.bind];have hmm:Array.map a.eval ⟨[x]⟩=#[a.eval x]:=by simp
       rw[hmm];exact zfy (call:=call) H (zm T hx) e
   case unsafeString=>
    obtain⟨ats⟩:=argTypes;obtain⟨ars⟩:=args;cases ats with
    |nil=>simp only[cOp]at e;exact(zc rfl e).elim
    |cons pt ats=>
     cases ats with
     |nil=>simp only[cOp]at e;exact(zc rfl e).elim
     |cons it ats=>
      cases ats with
      |cons _ _=>simp only[cOp]at e;exact(zc rfl e).elim
      |nil=>
       cases ars with
       |nil=>simp only[cOp]at e;exact(zc rfl e).elim
       |cons x ars=>
        cases ars with
        |nil=>simp only[cOp]at e;exact(zc rfl e).elim
        |cons y ars=>
         cases ars with
         |cons _ _=>simp only[cOp]at e;exact(zc rfl e).elim
         |nil=>
          simp only[cOp]at e;cases hu:P.underlying pt with
          |none=>rw[hu]at e;exact(zc rfl e).elim
          |some d=>
           rw[hu]at e;cases d<;>try (exact(zc rfl e).elim)
           case pointer el=>
            simp only at e;cases hb:yE P el&&Nat.beq (P.cellsOf el) 1 with
            |false=>rw[hb]at e;exact(zc rfl e).elim
            |true=>
             rw[hb]at e;simp only[LzC]at hb;cases hx:cOpd x with
             |none=>rw[hx]at e;exact(zc rfl e).elim
             |some fx=>
              cases hy:cOpd y with
              |none=>rw[hx,hy]at e;exact(zc rfl e).elim
              |some fy=>
               rw[hx,hy]at e;unfold execOp;simp only[ho];simp only[resolve,invoke,builtin,pure,bind,Sem.bind];have hmm:Array.map a.eval ⟨[x,y]⟩=#[a.eval x,a.eval y]:=by simp
               rw[hmm];exact zqS (call:=call) H hu (beq_true hb.2) (zm T hx).1 (zm T hy).1 e
   case cap=>
    cases hat:argTypes[0]? with
    |none=>simp only[cOp,hat]at e;exact(zc rfl e).elim
    |some ty=>
     cases har:args[0]? with
     |none=>simp only[cOp,hat,har]at e;exact(zc rfl e).elim
     |some x=>
      cases hu:P.underlying ty with
      |none=>simp only[cOp,hat,har,hu]at e;exact(zc rfl e).elim
      |some d=>
       have ha:(args.map a.eval)[0]? = some (a.eval x):=by simp[har]
       unfold execOp;simp only[ho];simp only[resolve,invoke,builtin,pure,bind,Sem.bind];cases d<;>try (simp only[cOp,hat,har,hu]at e;exact(zc rfl e).elim)
       case slice el=>
        cases hx:cOpd x with
        |none=>simp only[cOp,hat,har,hu,hx]at e;exact(zc rfl e).elim
        |some f=>simp only[cOp,hat,har,hu,hx]at e;exact zsA (call:=call) H hu (zm T hx).1 hat ha e
   case copy=>
    obtain⟨ats⟩:=argTypes;obtain⟨ars⟩:=args;cases ats with
    |nil=>simp only[cOp]at e;exact(zc rfl e).elim
    |cons ty ats=>
     cases ats with
     |nil=>simp only[cOp]at e;exact(zc rfl e).elim
     |cons tx ats=>
      cases ats with
      |cons _ _=>simp only[cOp]at e;exact(zc rfl e).elim
      |nil=>
       cases ars with
       |nil=>simp only[cOp]at e;exact(zc rfl e).elim
       |cons x ars=>
        cases ars with
        |nil=>simp only[cOp]at e;exact(zc rfl e).elim
        |cons y ars=>
         cases ars with
         |cons _ _=>simp only[cOp]at e;exact(zc rfl e).elim
         |nil=>
          simp only[cOp]at e;cases hu:P.underlying ty with
          |none=>rw[hu]at e;exact(zc rfl e).elim
          |some d=>
           cases hu2:P.underlying tx with
           |none=>rw[hu,hu2]at e;cases d<;>exact(zc rfl e).elim
           |some d2=>
            rw[hu,hu2]at e;cases d<;>cases d2<;>try (exact(zc rfl e).elim)
            rename_i el el2;simp only at e;cases hi:P.info? el with
            |none=>rw[hi]at e;exact(zc rfl e).elim
            |some i=>
             rw[hi]at e;simp only at e;cases h0:Nat.beq i.size 0 with
             |true=>rw[h0]at e;exact(zc rfl e).elim
             |false=>
              rw[h0]at e;cases hx:cOpd x with
              |none=>rw[hx]at e;exact(zc rfl e).elim
              |some fx=>
               cases hy:cOpd y with
               |none=>rw[hx,hy]at e;exact(zc rfl e).elim
               |some fy=>
                rw[hx,hy]at e;unfold execOp;simp only[ho];simp only[resolve,invoke,builtin,pure,bind,Sem.bind];have hmm:Array.map a.eval ⟨[x,y]⟩=#[a.eval x,a.eval y]:=by simp
                rw[hmm];exact zqQ (call:=call) H hu hi (zm T hx).1 (zm T hy).1 e
   case clear=>
    cases hat:argTypes[0]? with
    |none=>simp only[cOp,hat]at e;exact(zc rfl e).elim
    |some ty=>
     cases har:args[0]? with
     |none=>simp only[cOp,hat,har]at e;exact(zc rfl e).elim
     |some x=>
      cases hu:P.underlying ty with
      |none=>simp only[cOp,hat,har,hu]at e;exact(zc rfl e).elim
      |some d=>
       cases d<;>try (simp only[cOp,hat,har,hu]at e;exact(zc rfl e).elim)
       case slice el=>
        cases hi:P.info? el with
        |none=>simp only[cOp,hat,har,hu,hi]at e;exact(zc rfl e).elim
        |some i=>
         cases hz:z9 P el with
         |none=>simp only[cOp,hat,har,hu,hi,hz]at e;exact(zc rfl e).elim
         |some z=>
          simp only[cOp,hat,har,hu,hi,hz]at e;cases hb:(Nat.beq z.cells.length i.size && !Nat.beq i.size 0) with
          |false=>rw[hb]at e;exact(zc rfl e).elim
          |true=>
           rw[hb]at e;simp only[LzC,Bool.not_eq_true']at hb;cases hx:cOpd x with
           |none=>rw[hx]at e;exact(zc rfl e).elim
           |some f=>
            rw[hx]at e;have ha:(args.map a.eval)[0]? = some (a.eval x):=by simp[har]
            unfold execOp;simp only[ho];simp only[resolve,invoke,builtin,pure,bind,Sem.bind];exact zoR (call:=call) H hu hi hz (beq_true hb.1) (beq_false hb.2) (zm T hx).1 hat ha e
   case max=>
    simp only[cOp]at e;cases hx:args.toList with
    |nil=>rw[hx]at e;exact(zc rfl e).elim
    |cons x xs=>
     rw[hx]at e;simp only[vN]at e;cases h1:cOpd x with
     |none=>rw[h1]at e;exact(zc rfl e).elim
     |some f=>
      cases h2':vN xs with
      |none=>rw[h1,h2']at e;exact(zc rfl e).elim
      |some fs=>
       rw[h1,h2']at e;unfold execOp;simp only[ho];simp only[resolve,invoke,builtin,pure,bind,Sem.bind];refine zgT (call:=call) (isMax:=true) H T h1 h2' (s:=fun as=>Builtin.max_ _ _ as) (fun as ha=>?_) (by simp[hx]) e
       unfold Builtin.max_;rw[ha];rfl
   case min=>
    simp only[cOp]at e;cases hx:args.toList with
    |nil=>rw[hx]at e;exact(zc rfl e).elim
    |cons x xs=>
     rw[hx]at e;simp only[vN]at e;cases h1:cOpd x with
     |none=>rw[h1]at e;exact(zc rfl e).elim
     |some f=>
      cases h2':vN xs with
      |none=>rw[h1,h2']at e;exact(zc rfl e).elim
      |some fs=>
       rw[h1,h2']at e;unfold execOp;simp only[ho];simp only[resolve,invoke,builtin,pure,bind,Sem.bind];refine zgT (call:=call) (isMax:=false) H T h1 h2' (s:=fun as=>Builtin.min_ _ _ as) (fun as ha=>?_) (by simp[hx]) e
       unfold Builtin.min_;rw[ha];rfl
end
end Go.CE
end
section
namespace Go.CE
open Go.RowKit
abbrev FR(ro:Option Nat):Fence:={ Fence.wide with round:=ro }
theorem zh5{ro:Option Nat}{n:Nat}{P:Program}{f:FuncId}{args:Array Value}{w:World}{R:Ending→World→Prop}(h:CallsIn (FR none) n P f args w R):CallsIn (FR ro) n P f args w R:=h
theorem znK{ro:Option Nat}{n:Nat}{P:Program}{l:Nat}{f:FuncId}{tmps:Array Value}{assign body:Code}{w:World}{R:Ending→World→Prop}(h:RoundIn (FR none) n P l f tmps assign body w R):RoundIn (FR ro) n P l f tmps assign body w R:=h
def Ret(w0:World)(S:Nat→Prop)(φ:Phi)(h:AHeap)(v:AVal)(h2:AHeap)(e:Ending)(w2:World):Prop:=
 ∃φ2,e=.returned (zp φ2 v)∧Ext h.n.toNat φ φ2∧HRel w0 S φ2 h2 w2∧wfA φ2 h2.n.toNat v∧h.n.toNat≤h2.n.toNat
def y8(P:Program)(call:zh):Prop:=
 ∀(w0:World) (S:Nat→Prop) (φ:Phi) (h:AHeap) (w:World) (args:List AVal) (v:AVal) (h2:AHeap),HRel w0 S φ h w→(∀x∈args,wfA φ h.n.toNat x)→
  (∀g,call (.inl g) args h=some (v,h2)→(∀as w,(callFunc g as).run P w=.ok (.enter g as) w)∧CallsIn (FR none) 0 P g (args.map (zp φ)).toArray w (Ret w0 S φ h v h2))∧
  (∀ l, call (.inr l) args h = some (v, h2) → ∃ f tmps assign body, (Instr.yield (φ l).blk (args.map (zp φ)).toArray).run P w = .ok (.round (φ l).blk f tmps assign body) w ∧
   RoundIn (FR none) 0 P (φ l).blk f tmps assign body w (Ret w0 S φ h v h2))
def Next1(w0:World)(S:Nat→Prop)(φ:Phi)(nt:Nat)(h:AHeap)(t2:Tr AVal)(h2:AHeap)(a:Act)(a2:Act)(w2:World):Prop:=
 ∃φ2,Ext h.n.toNat φ φ2∧HRel w0 S φ2 h2 w2∧TRel φ2 nt h2.n.toNat t2 a2.tmps∧a2.defers=a.defers∧h.n.toNat≤h2.n.toNat
section
variable {P:Program} {w0:World} {S:Nat→Prop} {φ:Phi} {h h2:AHeap} {w w2:World} {nt:Nat} {t t2:Tr AVal} {a:Act} {v:AVal} {call:zh} {ro:Option Nat}
theorem zlA{c:Call}(e:cOp P (.defer c) call t h=some (v,h2)):False:=by cases e
theorem put_defers(a:Act)(d:Option Tmp)(x:Value):(a.put d x).defers=a.defers:=by cases d<;>rfl
theorem zmW(T:TRel φ nt h.n.toNat t a.tmps){φ2:Phi}(he:Ext h.n.toNat φ φ2)(H2:HRel w0 S φ2 h2 w2)(hv:wfA φ2 h2.n.toNat v)(hn:h.n.toNat≤h2.n.toNat)(dst:Option Nat)(hd:inT nt dst=true):
  Next1 w0 S φ nt h (setT t v (dst.map bn)) h2 a (a.put dst (zp φ2 v)) w2:=
 ⟨φ2,he,H2,TRel.put (T.ext he hn) hv dst hd,put_defers _ _ _,hn⟩
theorem zev(C:y8 P call)(H:HRel w0 S φ h w){ar:Act}(T:TRel φ nt h.n.toNat t ar.tmps){o:Oper}(hx:execOp a.eval o=execOp ar.eval o)(e:cOp P o.op call t h=some (v,h2)){K:Act→World→Prop}{Q:Exit→Act→World→Prop}
  (hK:∀φ2 w2,Ext h.n.toNat φ φ2→HRel w0 S φ2 h2 w2→wfA φ2 h2.n.toNat v→h.n.toNat≤h2.n.toNat→K (a.put o.dst (zp φ2 v)) w2):o.wpIn (FR ro) 0 P a w K Q:=by
 refine⟨fun f _=>trivial,?_⟩
 rw[Oper.semAt_eq _ _ _ (fun c hc=>by rw[hc]at e;exact zlA e)]
 show o.uponIn (FR ro) 0 P a K Q ((execOp a.eval o).run P w);rw[hx];by_cases hp:zjY o.op=true
 ·obtain⟨φ2,w2,hr,he,H2,hv,hn⟩:=zmM (P:=P) H T hp e;rcases hr with hr|⟨hr,hu⟩
  ·rw[hr];exact hK _ _ he H2 hv hn
  ·rw[hr];subst hu;exact hK _ _ he H2 hv hn
 ·cases ho:o.op<;>rw[ho]at hp<;>try (exact absurd rfl hp)
  rename_i c;obtain⟨callee,args,argTypes⟩:=c;cases callee with
  |builtin b=>exact absurd rfl hp
  |invoke r m=>rw[ho]at e;cases e
  |value f=>
   rw[ho]at e;cases hk:Nat.beq (jX P f) 0 with
   |false=>
    simp only[cOp,hk]at e;have e:zY (cExt cOpd (jX P f) args.toList) call t h=some (v,h2):=e;obtain⟨g,rfl,hext⟩:=zp1 (P:=P) (f:=f) rfl (beq_false hk);obtain⟨args⟩:=args;have hfv:ar.eval (.func g)=.func (.func g) #[] #[]:=rfl;unfold cExt at e;split at e
    ·rename_i x hargs;cases h1:Nat.beq (jX P (.func g)) 1 with
     |false=>rw[h1]at e;exact(zc rfl e).elim
     |true=>
      rw[h1]at e;simp only[cond_true]at e;cases hx:cOpd x with
      |none=>rw[hx]at e;exact(zc rfl e).elim
      |some fx=>
       rw[hx]at e;have e:opMv fx call t h=some (v,h2):=e;cases e;have ox:=zm T hx;rcases hext with⟨_,hrun⟩|⟨h2',_⟩
       ·have hal:args=[x]:=hargs;subst hal;have hr:(execOp ar.eval o).run P w=.ok (.value (zp φ (fx t))) w:=by
         unfold execOp;simp only[ho,resolve,hfv,Deferred.ofValue,Sem.run_bind,Sem.run_pure,Result.andThen_ok,invoke,Array.empty_append];have hmm:Array.map ar.eval ⟨[x]⟩ ++ #[]=#[ar.eval x]:=by simp
         rw[hmm,hrun,ox.1]
        rw[hr];exact hK φ w (Ext.refl _ _) H ox.2 (LzB _)
       ·rw[h2']at h1;cases h1
    ·rename_i x y hargs;cases h1:Nat.beq (jX P (.func g)) 2 with
     |false=>rw[h1]at e;exact(zc rfl e).elim
     |true=>
      rw[h1]at e;simp only[cond_true]at e;cases hx:cOpd x with
      |none=>rw[hx]at e;exact(zc rfl e).elim
      |some fx=>
       cases hy:cOpd y with
       |none=>rw[hx,hy]at e;exact(zc rfl e).elim
       |some fy=>
        rw[hx,hy]at e;have e:zg9 fx fy call t h=some (v,h2):=e;have ox:=zm T hx;have oy:=zm T hy;unfold zg9 at e;split at e
        ·rename_i sx sy hsx hsy;cases e;rw[hsx]at ox;rw[hsy]at oy;rcases hext with⟨h2',_⟩|⟨_,hrun⟩
         ·rw[h2']at h1;cases h1
         ·have hal:args=[x,y]:=hargs;subst hal;have hr:(execOp ar.eval o).run P w=.ok (.value (.int .i64 (cmpS sx.data.toList sy.data.toList))) w:=by
           unfold execOp;simp only[ho,resolve,hfv,Deferred.ofValue,Sem.run_bind,Sem.run_pure,Result.andThen_ok,invoke,Array.empty_append];have hmm:Array.map ar.eval ⟨[x,y]⟩ ++ #[]=#[.string sx,.string sy]:=by
            have h1:ar.eval x=.string sx:=ox.1;have h2:ar.eval y=.string sy:=oy.1;simp[h1,h2]
           rw[hmm,hrun]
          rw[hr];exact hK φ w (Ext.refl _ _) H trivial (LzB _)
        ·cases e
    ·exact(zc rfl e).elim
   |true=>
   cases hf:cOpd f with
   |none=>simp only[cOp,hk,hf]at e;exact(zc rfl e).elim
   |some ff=>
    cases ha:vN args.toList with
    |none=>simp only[cOp,hk,hf,ha]at e;exact(zc rfl e).elim
    |some fa=>
     simp only[cOp,hk,hf,ha]at e;have e:zck ff fa call t h=some (v,h2):=e;have of:=zm T hf;have oa:=za4 T ha;have hargs:args.map ar.eval=((fa.map fun f=>f t).map (zp φ)).toArray:=by
      apply Array.ext';rw[Array.toList_map,oa.1]
     unfold execOp;simp only[ho];unfold zck at e;split at e
     ·rename_i g caps hg;rw[hg]at of;have hcap:∀x∈(caps.map fun p=>AVal.s (.one (.ptr p.1 p.2))),wfA φ h.n.toNat x:=by
       intro x hx;obtain⟨p,hp',rfl⟩:=List.mem_map.1 hx;exact of.2 p hp'
      obtain⟨hcf,hcall⟩:=(C w0 S φ h w _ v h2 H (by
       intro x hx;rcases List.mem_append.1 hx with hx|hx
       ·exact oa.2 x hx
       ·exact hcap x hx)).1 g e
      have hargs2:((fa.map (fun x=>x t)++caps.map fun p=>AVal.s (.one (.ptr p.1 p.2))).map (zp φ)).toArray=args.map ar.eval++(caps.map fun p=>Value.pointer (some (adr φ p.1 p.2))).toArray:=by
       rw[hargs,List.map_append,List.append_toArray]
       congr 2
       simp[List.map_map,Function.comp_def,zp,zB,zi]
      rw[hargs2]at hcall;have hfv:ar.eval f=.func (.func g) #[] (caps.map fun p=>Value.pointer (some (adr φ p.1 p.2))).toArray:=of.1
      simp only[resolve,hfv,Deferred.ofValue,Sem.run_bind,Sem.run_pure,Result.andThen_ok,invoke,Array.empty_append,hcf];refine⟨fun hh=>by simp[Fence.wide]at hh,zh5 hcall |>.mono ?_⟩
      rintro e9 w9 ⟨φ2,rfl,he,H2,hv,hn⟩
      exact hK _ _ he H2 hv hn
     ·rename_i l hl;rw[hl]at of;obtain⟨f9,tmps,assign,body,hy,hround⟩:=(C w0 S φ h w _ v h2 H oa.2).2 l e;rw[←hargs]at hy;have hfv:ar.eval f=.func (.yield (φ l).blk) #[] #[]:=of.1;simp only[resolve,hfv,Deferred.ofValue,Sem.run_bind,Sem.run_pure,Result.andThen_ok,invoke,Array.empty_append,hy];refine⟨fun hh=>by simp[Fence.wide]at hh,znK hround |>.mono ?_⟩
      rintro e9 w9 ⟨φ2,rfl,he,H2,hv,hn⟩
      exact hK _ _ he H2 hv hn
     ·cases e
theorem zsL(C:y8 P call)(H:HRel w0 S φ h w)(T:TRel φ nt h.n.toNat t a.tmps){o:Oper}(hd:inT nt o.dst=true)(e:cOp P o.op call t h=some (v,h2)){K:Act→World→Prop}{Q:Exit→Act→World→Prop}
  (hK:∀a2 w2,Next1 w0 S φ nt h (setT t v (o.dst.map bn)) h2 a a2 w2→K a2 w2):o.wpIn (FR ro) 0 P a w K Q:=
 zev C H T rfl e fun _ _ he H2 hv hn=>hK _ _ (zmW T he H2 hv hn o.dst hd)
theorem qk(T:TRel φ nt h.n.toNat t a.tmps){ops:Array Oper}{j d:Nat}(hj:(ops[j]?).bind (·.dst)=some d)(hd:d<nt)(b:Bool):
  (yielded ops a.tmps j==some b)=want t (some (bn d,b)):=by
 unfold yielded want;rw[hj];simp only[Option.bind_some];rw[T.get d hd];cases hg:t.get (bn d) with
 |none=>rfl
 |some x=>
  simp only[Option.getD_some];cases x with
  |tup vs=>rfl
  |s y=>
   cases y with
   |agg cs=>rfl
   |one c=>cases c<;>rfl
theorem zlz{ops:Array Oper}{o:Oper}(e:zag call (yL P nt ops o) t h=some (t2,h2))(T:TRel φ nt h.n.toNat t a.tmps):inT nt o.dst=true∧
    ((Region.wanted o (yielded ops a.tmps) = true ∧ ∃ v, cOp P o.op call t h = some (v, h2) ∧ t2 = setT t v (o.dst.map bn)) ∨
     (Region.wanted o (yielded ops a.tmps)=false∧t2=setT t z7 (o.dst.map bn)∧h2=h)):=by
  unfold yL at e;have bad:∀{o':ROper},o'=⟨none,yV,none⟩→zag call o' t h=some (t2,h2)→False:=by
    intro o' ho' e;subst ho';cases e
  cases hd:inT nt o.dst with
  |false=>rw[hd]at e;exact(bad rfl e).elim
  |true=>
    rw[hd]at e;refine⟨rfl,?_⟩;simp only[cond_true]at e;have fin:∀g,zag call ⟨o.dst.map bn,cOp P o.op,g⟩ t h=some (t2,h2)→(want t g=true∧∃v,cOp P o.op call t h=some (v,h2)∧t2=setT t v (o.dst.map bn))∨(want t g=false∧t2=setT t z7 (o.dst.map bn)∧h2=h):=by
      intro g e;unfold zag at e;simp only at e;cases hw:want t g with
      |false=>rw[hw]at e;cases e;exact .inr ⟨rfl,rfl,rfl⟩
      |true=>
        rw[hw]at e;simp only[cond_true]at e;unfold setR at e;split at e
        · rename_i v9 h9 hv;cases e;exact .inl ⟨rfl,v9,hv,rfl⟩
        · cases e
    split at e
    · rename_i hg
      rcases fin none e with hh|⟨hw,_⟩
      · exact .inl ⟨by simp[Region.wanted,hg],hh.2⟩
      · cases hw
    · rename_i j b hg
      split at e
      · rename_i d hjd
        cases hb:Nat.ble (Nat.succ d) nt with
        |false=>rw[hb]at e;exact(bad rfl e).elim
        |true=>
          rw[hb]at e;have hyd:=qk T hjd (zT hb) b;rcases fin (some (bn d,b)) e with⟨hw,hh⟩|⟨hw,hh⟩
          · exact .inl ⟨by simp only[Region.wanted,hg];rw[hyd];exact hw,hh⟩
          · exact .inr ⟨by simp only[Region.wanted,hg];rw[hyd];exact hw,hh⟩
      · exact(bad rfl e).elim
theorem zcF(o:ROper)(os:List ROper):ziV call (o::os) t h=match zag call o t h with|some (t2,h2)=>ziV call os t2 h2|none=>none:=rfl
theorem Next1.refl(H:HRel w0 S φ h w)(T:TRel φ nt h.n.toNat t a.tmps):Next1 w0 S φ nt h t h a a w:=⟨φ,Ext.refl _ _,H,T,rfl,LzB _⟩
theorem zj6(C:y8 P call){ops:Array Oper}{Q:Exit→Act→World→Prop}:∀(l:List Oper) {φ:Phi} {h:AHeap} {w:World} {t:Tr AVal} {a:Act},HRel w0 S φ h w→TRel φ nt h.n.toNat t a.tmps→
  ziV call (l.map (yL P nt ops)) t h=some (t2,h2)→(∀a2 w2,Next1 w0 S φ nt h t2 h2 a a2 w2→Q .normal a2 w2)→wpListIn (FR ro) 0 P ops Q l a w
 | [],φ,h,w,t,a,H,T,e,hQ=>by
  cases e;exact hQ _ _ (Next1.refl H T)
 |o::l,φ,h,w,t,a,H,T,e,hQ=>by
  simp only[List.map_cons]at e;rw[zcF]at e;split at e
  ·rename_i t1 h1 ho;obtain⟨hd,hh⟩:=zlz ho T;unfold wpListIn;rcases hh with⟨hw,v,hv,rfl⟩|⟨hw,rfl,rfl⟩
   ·rw[if_pos hw];refine zsL C H T hd hv fun a2 w2 hn=>?_
    obtain⟨φ2,he,H2,T2,hdef,hle⟩:=hn;refine zj6 C l H2 T2 e fun a3 w3 hn3=>hQ a3 w3 ?_
    obtain⟨φ3,he3,H3,T3,hdef3,hle3⟩:=hn3;exact⟨φ3,he.trans he3 hle,H3,T3,hdef3.trans hdef,Nat.le_trans hle hle3⟩
   ·rw[if_neg (by rw[hw];simp)]
    refine⟨fun f _=>trivial,?_⟩
    have T2:=TRel.put T (v:=z7) (fun _ hv=>by cases hv) o.dst hd
    refine zj6 C l H T2 e fun a3 w3 hn3=>hQ a3 w3 ?_
    obtain⟨φ3,he3,H3,T3,hdef3,hle3⟩:=hn3;exact⟨φ3,he3,H3,T3,hdef3.trans (put_defers _ _ _),hle3⟩
  ·cases e
end
end Go.CE
end
section
namespace Go.CE
open Go.RowKit
def exOf:RExit→Exit
 | .normal=>.normal
 | .exit id=>.exit id
 | .ret=>.ret
def marks(φ:Phi)(d:List BN):List Deferred:=d.map fun b=>{ target:=.collected (φ b).blk,args:=#[] }
structure SRel (w0:World) (S:Nat→Prop) (φ:Phi) (nt:Nat) (s:St) (a:Act) (w:World):Prop where
 H:HRel w0 S φ s.h w
 T:TRel φ nt s.h.n.toNat s.t a.tmps
 D:a.defers=marks φ s.d
 dn:∀b∈s.d,okB φ s.h.n.toNat b
def After(w0:World)(S:Nat→Prop)(φ:Phi)(nt:Nat)(h:AHeap)(s2:St)(a2:Act)(w2:World):Prop:=
 ∃φ2,Ext h.n.toNat φ φ2∧SRel w0 S φ2 nt s2 a2 w2∧h.n.toNat≤s2.h.n.toNat
def RoRel(φ:Phi)(n:Nat):Option BN→Option Nat→Prop
 |none,ro=>ro=none
 |some l,ro=>ro=some (φ l).blk∧okB φ n l
theorem RoRel.ext{φ φ2:Phi}{n m:Nat}{round:Option BN}{ro:Option Nat}(h:RoRel φ n round ro)(he:Ext n φ φ2)(hn:n≤m):RoRel φ2 m round ro:=by
 cases round with
 |none=>exact h
 |some l=>exact⟨by rw[he l h.2.1];exact h.1,okB.ext he hn h.2⟩
theorem zbj{φ φ2:Phi}{n:Nat}(he:Ext n φ φ2){d:List BN}(hd:∀b∈d,okB φ n b):marks φ2 d=marks φ d:=
 List.map_congr_left fun b hb=>by rw[he b (hd b hb).1]
theorem After.trans{w0:World}{S:Nat→Prop}{φ φ1:Phi}{nt:Nat}{h h1:AHeap}{s2:St}{a2:Act}{w2:World}(he:Ext h.n.toNat φ φ1)(hn:h.n.toNat≤h1.n.toNat)(hA:After w0 S φ1 nt h1 s2 a2 w2):After w0 S φ nt h s2 a2 w2:=by
 obtain⟨φ2,he2,hs,hle⟩:=hA;exact⟨φ2,he.trans he2 hn,hs,Nat.le_trans hn hle⟩
section
variable {P:Program} {w0:World} {S:Nat→Prop} {nt:Nat} {call:zh}
def vF(P:Program)(w0:World)(S:Nat→Prop)(nt:Nat)(call:zh)(c:Code):Prop:=
 ∀(f fn:Nat) (round:Option BN) (ro:Option Nat) (φ:Phi) (s s2:St) (e:RExit) (a:Act) (w:World) (Q:Exit→Act→World→Prop),z5 P nt c call f fn round s=some (e,s2)→SRel w0 S φ nt s a w→RoRel φ s.h.n.toNat round ro→
  (∀a2 w2,After w0 S φ nt s.h s2 a2 w2→Q (exOf e) a2 w2)→c.wpIn (FR ro) 0 P Q a w
theorem SRel.after{φ:Phi}{s:St}{a:Act}{w:World}(R:SRel w0 S φ nt s a w):After w0 S φ nt s.h s a w:=⟨φ,Ext.refl _ _,R,LzB _⟩
theorem qu{φ:Phi}{s:St}{a a2:Act}{w w2:World}{t2:Tr AVal}{h2:AHeap}(R:SRel w0 S φ nt s a w)(hn:Next1 w0 S φ nt s.h t2 h2 a a2 w2):After w0 S φ nt s.h ⟨t2,s.d,h2⟩ a2 w2:=by
 obtain⟨φ2,he,H2,T2,hd,hle⟩:=hn;exact⟨φ2,he,⟨H2,T2,by rw[hd,R.D,zbj he R.dn],fun b hb=>okB.ext he hle (R.dn b hb)⟩,hle⟩
theorem zj8(C:y8 P call)(id:Nat)(ops:Array Oper):vF P w0 S nt call (.region id ops false):=by
 intro f fn round ro φ s s2 e a w Q hc R hr hQ;have hc:regF (ops.toList.map (yL P nt ops)) call f fn round s=some (e,s2):=hc;obtain⟨t,d,h⟩:=s;simp only[regF]at hc;cases he:ziV call (ops.toList.map (yL P nt ops)) t h with
 |none=>rw[he]at hc;cases hc
 |some p=>
  obtain⟨t2,h2⟩:=p;rw[he]at hc;cases hc;exact wpIn_region_list (zj6 C ops.toList R.H R.T he fun a2 w2 hn=>hQ a2 w2 (qu R hn))
theorem zq4{x y:Code}(hx:vF P w0 S nt call x)(hy:vF P w0 S nt call y):vF P w0 S nt call (.seq x y):=by
 intro f fn round ro φ s s2 e a w Q hc R hr hQ;have hc:zqz call f fn round (z5 P nt y) (z5 P nt x call f fn round s)=some (e,s2):=hc;cases h1:z5 P nt x call f fn round s with
 |none=>rw[h1]at hc;cases hc
 |some p=>
  obtain⟨e1,s1⟩:=p;rw[h1]at hc;refine wpIn_seq (hx f fn round ro φ s s1 e1 a w _ h1 R hr fun a1 w1 hA=>?_)
  cases e1 with
  |normal=>
   obtain⟨φ1,he1,R1,hle1⟩:=hA;show y.wpIn (FR ro) 0 P Q a1 w1;exact hy f fn round ro φ1 s1 s2 e a1 w1 Q hc R1 (hr.ext he1 hle1) fun a2 w2 hA2=>hQ a2 w2 (hA2.trans he1 hle1)
  |exit id=>cases hc;exact hQ a1 w1 hA
  |ret=>cases hc;exact hQ a1 w1 hA
theorem zo5{c:Operand}{x y:Code}(hx:vF P w0 S nt call x)(hy:vF P w0 S nt call y):vF P w0 S nt call (.cond c x y):=by
 intro f fn round ro φ s s2 e a w Q hc R hr hQ;cases hf:cOpd c with
 |none=>simp only[z5,hf]at hc;cases hc
 |some g=>
  simp only[z5,hf]at hc;obtain⟨t,d,h⟩:=s;simp only[zqa]at hc;split at hc
  ·rename_i q hq;have ho:=(zm R.T hf).1;simp only at ho;rw[hq]at ho;refine wpIn_cond (t:=q) ho ?_;cases q
   ·exact hy f fn round ro φ _ s2 e a w Q hc R hr hQ
   ·exact hx f fn round ro φ _ s2 e a w Q hc R hr hQ
  ·cases hc
theorem zmP{id:Nat}{x:Code}(hx:vF P w0 S nt call x):vF P w0 S nt call (.block id x):=by
 intro f fn round ro φ s s2 e a w Q hc R hr hQ;have hc:outF id (z5 P nt x call f fn round s)=some (e,s2):=hc;cases h1:z5 P nt x call f fn round s with
 |none=>rw[h1]at hc;cases hc
 |some p=>
  obtain⟨e1,s1⟩:=p;rw[h1]at hc;refine wpIn_block (hx f fn round ro φ s s1 e1 a w _ h1 R hr fun a1 w1 hA=>?_)
  cases e1 with
  |normal=>cases hc;exact hQ a1 w1 hA
  |ret=>cases hc;exact hQ a1 w1 hA
  |exit id'=>
   simp only[outF]at hc;show (if id'=id then Q .normal a1 w1 else Q (.exit id') a1 w1)
   cases hb:Nat.beq id' id with
   |true=>rw[hb]at hc;cases hc;rw[if_pos (beq_true hb)];exact hQ a1 w1 hA
   |false=>rw[hb]at hc;cases hc;rw[if_neg (beq_false hb)];exact hQ a1 w1 hA
theorem ziJ(c:St→Option (RExit×St))(n:Nat)(s:St):zeI c (n+1) s=match c s with|some (.normal,s2)=>zeI c n s2|r=>r:=rfl
theorem zo4{x:Code}(hx:vF P w0 S nt call x):vF P w0 S nt call (.loop x):=by
 intro f fn round ro φ s s2 e a w Q hc R hr hQ;have hc:zeI (z5 P nt x call f fn round) f s=some (e,s2):=hc;have key:∀(n:Nat) (φ:Phi) (s:St) (a:Act) (w:World),zeI (z5 P nt x call f fn round) n s=some (e,s2)→SRel w0 S φ nt s a w→RoRel φ s.h.n.toNat round ro→
   (∀a2 w2,After w0 S φ nt s.h s2 a2 w2→Q (exOf e) a2 w2)→Code.roundsIn (FR ro) 0 P x Q n a w:=by
  intro n
  induction n with
  |zero=>intro φ s a w hc;cases hc
  |succ n ih=>
   intro φ s a w hc R hr hQ;rw[ziJ]at hc;cases h1:z5 P nt x call f fn round s with
   |none=>rw[h1]at hc;cases hc
   |some p=>
    obtain⟨e1,s1⟩:=p;rw[h1]at hc;rw[roundsIn_succ];refine hx f fn round ro φ s s1 e1 a w _ h1 R hr fun a1 w1 hA=>?_
    cases e1 with
    |normal=>
     obtain⟨φ1,he1,R1,hle1⟩:=hA;show Code.roundsIn (FR ro) 0 P x Q n a1 w1;exact ih φ1 s1 a1 w1 hc R1 (hr.ext he1 hle1) fun a2 w2 hA2=>hQ a2 w2 (hA2.trans he1 hle1)
    |exit id=>cases hc;exact hQ a1 w1 hA
    |ret=>cases hc;exact hQ a1 w1 hA
 exact wpIn_loop_rounds f (key f φ s a w hc R hr hQ)
theorem zir{t:Tr AVal}{ds:List BN}{l:BN}{r:Res}{e:RExit}{s2:St}(hc:zjP t ds l r=some (e,s2)):
  ∃x h st pend lf ln lt lps la lb ld,r=some (x,h)∧h.t.get l=some (.loop st pend lf ln lt lps la lb ld)∧st≠.busy∧e=pend.getD .normal∧s2=⟨t,ds,h.put l (.loop .exhausted pend lf ln lt lps la lb ld)⟩:=by
 unfold zjP at hc;split at hc
 ·rename_i x h;split at hc
  ·rename_i st pend lf ln lt lps la lb ld hl;split at hc
   ·cases hc
   ·rename_i hnb;cases hc;exact⟨x,h,st,pend,lf,ln,lt,lps,la,lb,ld,rfl,hl,hnb,rfl,rfl⟩
  ·cases hc
 ·cases hc
theorem zi9{ro:Option Nat}{Q:Exit→Act→World→Prop}{a:Act}{w:World}(e:RExit)(h:Q (exOf e) a w):(zaa e).wpIn (FR ro) 0 P Q a w:=by
 cases e with
 |normal=>exact wpIn_skip h
 |exit id=>exact wpIn_exit h
 |ret=>exact wpIn_ret h
theorem zmN(C:y8 P call){g:Operand}{ps:Array Tmp}{assign body:Code}:vF P w0 S nt call (.rangeFunc g ps assign body):=by
 intro f fn round ro φ s s2 e a w Q hc R hr hQ;cases hg:cOpd g with
 |none=>simp only[z5,hg]at hc;cases hc
 |some gg=>
  simp only[z5,hg]at hc;obtain⟨t,d,h⟩:=s;simp only[znW]at hc;have R':=R;obtain⟨H,T,D,dn⟩:=R;simp only at H T D dn;split at hc
  ·cases hc
  ·rename_i bd ds h0 hD;split at hc
   ·rename_i gf caps hgv;obtain⟨xv,h3,st,pend,lf,ln,lt,lps,la,lb,ld,hcall,hl3,hnb,he,hs2⟩:=zir hc;refine wpIn_rangeFunc fun fn' _=>?_
    obtain⟨φ0,mark,w0',hE0,H0,hn0,hbd,hmark,hrunE⟩:∃(φ0:Phi) (mark:List Deferred) (w1:World),Ext h.n.toNat φ φ0∧HRel w0 S φ0 h0 w1∧h.n.toNat≤h0.n.toNat∧okB φ0 h0.n.toNat bd∧
      (marks φ0 ds=mark++a.defers∧∀b∈ds,okB φ0 h0.n.toNat b)∧
      (Instr.enterLoop fn' a.tmps ps assign body ro).run P w=.ok (w1.heap.size,mark) (w1.alloc (.loop { state:=.ready,pending:=none,fn:=fn',tmps:=a.tmps,params:=ps,assign:=assign,body:=body,defers:=(φ0 bd).blk })):=by
     cases round with
     |none=>
      have hro:ro=none:=hr;subst hro;simp only[zjQ]at hD;cases hD;refine⟨upd φ h.n ⟨w.heap.size,0,0,true,none⟩,[{ target:=.collected w.heap.size,args:=#[] }],w.alloc (.deferred (some [])),ya _ _ _,H.new _ _ _ rfl ?_,by rw[yj];omega,⟨by rw[yj];omega,by rw[zn]⟩,⟨?_,?_⟩,?_⟩
      ·show _=_;rw[zn];exact heap_alloc_new w _
      ·show marks _ (h.n::d)=_;simp only[marks,List.map_cons,zn];have:=zbj (ya φ h.n ⟨w.heap.size,0,0,true,none⟩) dn;simp only[marks]at this;rw[this,D];rfl
      ·intro b hb;rw[yj];cases hb with
       |head=>exact⟨by omega,by rw[zn]⟩
       |tail _ hm=>exact okB.ext (ya _ _ _) (Nat.le_succ _) (dn b hm)
      ·rw[zn];have:=run_enterLoop_outer (P:=P) (w:=w) fn' a.tmps ps assign body;rw[this];simp
     |some l=>
      obtain⟨hro,hln⟩:=hr;subst hro;simp only[zjQ]at hD;split at hD
      ·rename_i st9 p9 f9 n9 t9 ps9 a9 b9 d9 hl9;cases hD;obtain⟨arr,f8,g1,g2,g3⟩:=H.obj l _ hl9;refine⟨φ,[],w,Ext.refl _ _,H,LzB _,g3,⟨by rw[D];rfl,dn⟩,?_⟩
       exact run_enterLoop_inner (P:=P) g1 fn' a.tmps ps assign body
      ·cases hD
    have T0:TRel φ0 nt h0.n.toNat t a.tmps:=T.ext hE0 hn0;have H1:HRel w0 S (upd φ0 h0.n ⟨w0'.heap.size,0,0,true,none⟩) (h0.new (.loop .ready none fn nt t ps assign body bd)) (w0'.alloc (.loop { state:=.ready,pending:=none,fn:=fn',tmps:=a.tmps,params:=ps,assign:=assign,body:=body,defers:=(φ0 bd).blk })):=by
     refine H0.new _ _ ⟨w0'.heap.size,0,0,true,none⟩ rfl ?_;refine⟨a.tmps,fn',?_,T0.ext (ya _ _ _) (Nat.le_succ _),okB.ext (ya _ _ _) (Nat.le_succ _) hbd⟩;rw[zn,ya φ0 h0.n _ bd hbd.1];exact heap_alloc_new w0' _
    have hE1:Ext h.n.toNat φ (upd φ0 h0.n ⟨w0'.heap.size,0,0,true,none⟩):=hE0.trans (ya _ _ _) hn0;have hn1:(h0.new (.loop .ready none fn nt t ps assign body bd)).n.toNat=h0.n.toNat+1:=yj _ _;have og:=zm T0 hg;rw[hgv]at og;have hwcaps:∀x∈([AVal.s (.one (.yld h0.n))]++caps.map fun p=>AVal.s (.one (.ptr p.1 p.2))),wfA (upd φ0 h0.n ⟨w0'.heap.size,0,0,true,none⟩) (h0.new (.loop .ready none fn nt t ps assign body bd)).n.toNat x:=by
     intro x hx;rw[hn1];rcases List.mem_append.1 hx with hx|hx
     ·simp only[List.mem_singleton]at hx;subst hx;exact⟨Nat.lt_succ_self _,by rw[zn]⟩
     ·obtain⟨p,hp,rfl⟩:=List.mem_map.1 hx;exact okB.ext (ya _ _ _) (Nat.le_succ _) (og.2 p hp)
    obtain⟨hcf,hcl⟩:=(C w0 S _ _ _ _ xv h3 H1 hwcaps).1 gf hcall;have hargs:(([AVal.s (.one (.yld h0.n))]++caps.map fun p=>AVal.s (.one (.ptr p.1 p.2))).map (zp (upd φ0 h0.n ⟨w0'.heap.size,0,0,true,none⟩))).toArray=#[Value.func (.yield w0'.heap.size) #[] #[]]++(caps.map fun p=>Value.pointer (some (adr φ0 p.1 p.2))).toArray:=by
     rw[List.map_append,←List.append_toArray]
     congr 1
     ·simp[zp,zB,zi,zn]
     ·simp only[List.map_map,Function.comp_def]
      congr 1
      refine List.map_congr_left fun p hp=>?_
      have:=ya φ0 h0.n ⟨w0'.heap.size,0,0,true,none⟩ p.1 (og.2 p hp).1;simp[zp,zB,zi,adr,Addr.add,this]
    rw[hargs]at hcl;have hgval:a.eval g=.func (.func gf) #[] (caps.map fun p=>Value.pointer (some (adr φ0 p.1 p.2))).toArray:=og.1
    refine⟨w0'.heap.size,mark,_,{ target:=.fn (.func gf) (caps.map fun p=>Value.pointer (some (adr φ0 p.1 p.2))).toArray,args:=#[Value.func (.yield w0'.heap.size) #[] #[]] },w0'.alloc (.loop { state:=.ready,pending:=none,fn:=fn',tmps:=a.tmps,params:=ps,assign:=assign,body:=body,defers:=(φ0 bd).blk }),gf,
     #[Value.func (.yield w0'.heap.size) #[] #[]]++(caps.map fun p=>Value.pointer (some (adr φ0 p.1 p.2))).toArray,w0'.alloc (.loop { state:=.ready,pending:=none,fn:=fn',tmps:=a.tmps,params:=ps,assign:=assign,body:=body,defers:=(φ0 bd).blk }),hrunE,?_,fun _ _=>trivial,?_,fun hh=>by simp[Fence.wide]at hh,zh5 hcl |>.mono ?_⟩
    ·simp only[resolve,hgval,Deferred.ofValue,Sem.run_pure];simp[Act.eval]
    ·simp only[invoke,hcf]
    ·rintro e9 w9 ⟨φ3,rfl,he3,H3,_,hle3⟩
     rw[hn1]at he3 hle3;obtain⟨arr,f8,g1,g2,g3⟩:=H3.obj h0.n _ hl3;have eb:(φ3 h0.n).blk=w0'.heap.size:=by
      have:=he3 h0.n (Nat.lt_succ_self _);rw[this,zn]
     rw[eb]at g1;have hend:=run_endLoop (P:=P) g1 hnb;have hlt:w0'.heap.size<w9.heap.size:=(Lz7.1 g1).1;have H4:HRel w0 S φ3 (h3.put h0.n (.loop .exhausted pend lf ln lt lps la lb ld)) (w9.putObj w0'.heap.size (.loop { state:=.exhausted,pending:=pend.map zaa,fn:=f8,tmps:=arr,params:=lps,assign:=la,body:=lb,defers:=(φ3 ld).blk })):=by
      refine H3.put hl3 trivial (fun k hk=>?_) (by simp) rfl rfl rfl ⟨arr,f8,?_,g2,g3⟩
      ·rw[eb]at hk;exact World.putObj_heap_other hk
      ·rw[eb];exact World.putObj_heap_same hlt
     have hE3:Ext h.n.toNat φ φ3:=hE1.trans he3 (by omega)
     have hA:After w0 S φ nt h s2 { a with defers:=mark++a.defers } (w9.putObj w0'.heap.size (.loop { state:=.exhausted,pending:=pend.map zaa,fn:=f8,tmps:=arr,params:=lps,assign:=la,body:=lb,defers:=(φ3 ld).blk })):=by
      subst hs2;refine⟨φ3,hE3,⟨H4,?_,?_,?_⟩,?_⟩
      ·exact T0.ext (fun b hb=>(he3 b (by omega)).trans (ya _ _ _ b hb)) (by show h0.n.toNat≤h3.n.toNat;omega)
      ·show mark++a.defers=marks φ3 ds;rw[←hmark.1];refine (zbj (n:=h0.n.toNat) (fun b hb=>?_) hmark.2).symm
       exact(he3 b (by omega)).trans (ya _ _ _ b hb)
      ·intro b hb;have:=okB.ext (ya φ0 h0.n ⟨w0'.heap.size,0,0,true,none⟩) (Nat.le_succ _) (hmark.2 b hb);exact okB.ext he3 (by show h0.n.toNat+1≤h3.n.toNat;omega) this
      ·show h.n.toNat≤h3.n.toNat;omega
     refine⟨_,_,hend,?_⟩;subst he;cases pend with
     |none=>exact hQ _ _ hA
     |some e1=>exact zi9 e1 (hQ _ _ hA)
   ·cases hc
end
end Go.CE
end
section
namespace Go.CE
open Go.RowKit
def z8(f:OpFn):Prop:=∀call t h v h2,f call t h=some (v,h2)→h2=h
theorem zy:z8 (zY none):=fun _ _ _ _ _ e=>by cases e
theorem zu{f:OpFn}(hf:z8 f):z8 (zY (some f)):=hf
theorem zig{α:Type}{a:Option α}{g:α→Option OpFn}(hg:∀x,z8 (zY (g x))):z8 (zY (a.bind g)):=by
 cases a with
 |none=>exact zy
 |some x=>exact hg x
theorem zf{α:Type}{a:Option α}{g:α→Option OpFn}(hg:∀x,z8 (zY (g x))):z8 (zY (a >>= g)):=zig hg
theorem zd8{α:Type}{a:Option α}{g:α→OpFn}(hg:∀x,z8 (g x)):z8 (zY (a.map g)):=by
 cases a with
 |none=>exact zy
 |some x=>exact hg x
theorem y3{b:Bool}{x y:Option OpFn}(hx:z8 (zY x))(hy:z8 (zY y)):z8 (zY (bif b then x else y)):=by
 cases b
 ·exact hy
 ·exact hx
theorem zQ{h h2:AHeap}{c:Option CVal}{v:AVal}(e:retC h c=some (v,h2)):h2=h:=by cases c<;>cases e;rfl
theorem yX{h h2:AHeap}{c:Option (List CVal)}{v:AVal}(e:retA h c=some (v,h2)):h2=h:=by cases c<;>cases e;rfl
theorem zW{h h2:AHeap}{n:Option Nat}{cs:List CVal}{off:Nat}{v:AVal}(e:part n cs off h=some (v,h2)):h2=h:=by
 cases n
 ·exact zQ e
 ·exact yX e
theorem yI{h h2:AHeap}{b:Bool}{x y:Res}{v:AVal}(hx:x=some (v,h2)→h2=h)(hy:y=some (v,h2)→h2=h)(e:(bif b then x else y)=some (v,h2)):h2=h:=by
 cases b
 ·exact hy e
 ·exact hx e
theorem zec{st:Nat}{lo hi mx:Option Opd}{t:Tr AVal}{h h2:AHeap}{b:BN}{off len cap:Nat}{v:AVal}(e:xd st lo hi mx t h b off len cap=some (v,h2)):h2=h:=by
 unfold xd at e
 (repeat' split at e)<;>first|(cases e;done)|exact yI (fun e=>by cases e;rfl) (fun e=>by cases e) e
theorem zju{st:Nat}{lo hi mx:Option Opd}{t:Tr AVal}{h h2:AHeap}{b:BN}{off len cap:Nat}{v:AVal}(e:y9 st lo hi mx t h b off len cap=some (v,h2)):h2=h:=by
 unfold y9 at e
 (repeat' split at e)<;>first|(cases e;done)|(cases e;rfl)|exact yI (fun e=>by cases e;rfl) (fun e=>by cases e) e
theorem zii{lo hi mx:Option Opd}{t:Tr AVal}{h h2:AHeap}{v:AVal}(e:xu lo hi mx t h=some (v,h2)):h2=h:=by
 unfold xu at e;split at e<;>cases e;rfl
theorem zcX(x:Opd):z8 (opMv x):=by
 intro call t h v h2 e;unfold opMv at e
 (repeat' split at e)<;>first|(cases e;done)|(cases e;rfl)|exact zQ e|exact yX e|exact zW e|exact yI (fun e=>by first|(cases e;rfl)|exact zQ e|exact zW e) (fun e=>by cases e) e
theorem zh8(x y z:Opd):z8 (uH x y z):=by
 intro call t h v h2 e;unfold uH at e
 (repeat' split at e)<;>first|(cases e;done)|(cases e;rfl)|exact zQ e|exact yX e|exact zW e|exact yI (fun e=>by first|(cases e;rfl)|exact zQ e|exact zW e) (fun e=>by cases e) e
theorem zaN(zs ps):z8 (w8 zs ps):=by intro call t h v h2 e;exact yX e
theorem zia(n x):z8 (uK n x):=by
 intro call t h v h2 e;unfold uK loadAt at e
 (repeat' split at e)<;>first|(cases e;done)|exact zW e|(unfold zeo at e;split at e;exact zQ e;exact yX e)|exact yI zQ (fun e=>by cases e) e
theorem zfr(x):z8 (wX x):=by
 intro call t h v h2 e;unfold wX at e
 (repeat' split at e)<;>first|(cases e;done)|(cases e;rfl)|exact zQ e|exact yX e|exact zW e|exact yI (fun e=>by first|(cases e;rfl)|exact zQ e|exact zW e) (fun e=>by cases e) e
theorem zjq(g x y):z8 (zao g x y):=by
 intro call t h v h2 e;unfold zao at e
 (repeat' split at e)<;>first|(cases e;done)|(cases e;rfl)|exact zQ e|exact yX e|exact zW e|exact yI (fun e=>by first|(cases e;rfl)|exact zQ e|exact zW e) (fun e=>by cases e) e
theorem zaL(g x y):z8 (wg g x y):=by
 intro call t h v h2 e;unfold wg at e
 (repeat' split at e)<;>first|(cases e;done)|(cases e;rfl)|exact zQ e|exact yX e|exact zW e|exact yI (fun e=>by first|(cases e;rfl)|exact zQ e|exact zW e) (fun e=>by cases e) e
theorem zjl(g x y):z8 (za5 g x y):=by
 intro call t h v h2 e;unfold za5 at e
 (repeat' split at e)<;>first|(cases e;done)|(cases e;rfl)|exact zQ e|exact yX e|exact zW e|exact yI (fun e=>by first|(cases e;rfl)|exact zQ e|exact zW e) (fun e=>by cases e) e
theorem zgO(g n x y):z8 (opEq g n x y):=by
 intro call t h v h2 e;unfold opEq at e
 (repeat' split at e)<;>first|(cases e;done)|(cases e;rfl)|exact zQ e|exact yX e|exact zW e|exact yI (fun e=>by first|(cases e;rfl)|exact zQ e|exact zW e) (fun e=>by cases e) e
theorem zb3(n x y):z8 (vS n x y):=by
 intro call t h v h2 e;unfold vS at e
 (repeat' split at e)<;>first|(cases e;done)|(cases e;rfl)|exact zQ e|exact yX e|exact zW e|exact yI (fun e=>by first|(cases e;rfl)|exact zQ e|exact zW e) (fun e=>by cases e) e
theorem zb4(n x y):z8 (uI n x y):=by
 intro call t h v h2 e;unfold uI at e
 (repeat' split at e)<;>first|(cases e;done)|(cases e;rfl)|exact zQ e|exact yX e|exact zW e|exact yI (fun e=>by first|(cases e;rfl)|exact zQ e|exact zW e) (fun e=>by cases e) e
theorem zjn(x):z8 (za6 x):=by
 intro call t h v h2 e;unfold za6 at e
 (repeat' split at e)<;>first|(cases e;done)|(cases e;rfl)|exact zQ e|exact yX e|exact zW e|exact yI (fun e=>by first|(cases e;rfl)|exact zQ e|exact zW e) (fun e=>by cases e) e
theorem zjo(x):z8 (za7 x):=by
 intro call t h v h2 e;unfold za7 at e
 (repeat' split at e)<;>first|(cases e;done)|(cases e;rfl)|exact zQ e|exact yX e|exact zW e|exact yI (fun e=>by first|(cases e;rfl)|exact zQ e|exact zW e) (fun e=>by cases e) e
theorem zif(k x):z8 (uO k x):=by
 intro call t h v h2 e;unfold uO at e
 (repeat' split at e)<;>first|(cases e;done)|(cases e;rfl)|exact zQ e|exact yX e|exact zW e|exact yI (fun e=>by first|(cases e;rfl)|exact zQ e|exact zW e) (fun e=>by cases e) e
theorem zqX{h h2:AHeap}{c:Option (List CVal)}{v:AVal}(e:retS h c=some (v,h2)):h2=h:=by
 unfold retS at e
 (repeat' split at e)<;>first|(cases e;done)|(cases e;rfl)
theorem zjs(x):z8 (kH x):=by
 intro call t h v h2 e;unfold kH at e
 (repeat' split at e)<;>first|(cases e;done)|(cases e;rfl)|exact zqX e
theorem zjm(x):z8 (zdk x):=by
 intro call t h v h2 e;unfold zdk at e
 (repeat' split at e)<;>first|(cases e;done)|(cases e;rfl)|exact yI (fun e=>by cases e;rfl) (fun e=>by cases e) e
theorem zjk(u n x):z8 (zdj u n x):=by
 intro call t h v h2 e;unfold zdj at e;split at e
 ·cases e;rfl
 ·refine yI (fun e=>?_) (fun e=>by cases e) e
  split at e
  ·exact yI (fun e=>by cases e;rfl) (fun e=>by cases e) e
  ·cases e
 ·cases e
theorem zaM(n x y):z8 (wW n x y):=by
 intro call t h v h2 e;unfold wW at e
 (repeat' split at e)<;>first|(cases e;done)|(cases e;rfl)
theorem zd7(l st x lo hi mx):z8 (wH l st x lo hi mx):=by
 intro call t h v h2 e;unfold wH at e;split at e
 ·exact zec e
 ·cases e
theorem zh9(f x):z8 (uJ f x):=by
 intro call t h v h2 e;unfold uJ at e
 (repeat' split at e)<;>first|(cases e;done)|(cases e;rfl)|exact zQ e|exact yX e|exact zW e|exact yI (fun e=>by first|(cases e;rfl)|exact zQ e|exact zW e) (fun e=>by cases e) e
theorem zfq(st x lo hi mx):z8 (wV st x lo hi mx):=by
 intro call t h v h2 e;unfold wV at e;split at e
 ·exact zii e
 ·exact yI zec zju e
 ·cases e
theorem zd6(x lo hi):z8 (xy x lo hi):=by
 intro call t h v h2 e;unfold xy at e
 (repeat' split at e)<;>first|(cases e;done)|(cases e;rfl)|exact zQ e|exact yX e|exact zW e|exact yI (fun e=>by first|(cases e;rfl)|exact zQ e|exact zW e) (fun e=>by cases e) e
theorem zie(x o):z8 (uN x o):=by
 intro call t h v h2 e;unfold uN at e
 (repeat' split at e)<;>first|(cases e;done)|(cases e;rfl)|exact zQ e|exact yX e|exact zW e|exact yI (fun e=>by first|(cases e;rfl)|exact zQ e|exact zW e) (fun e=>by cases e) e
theorem zfv(x o n):z8 (w7 x o n):=by
 intro call t h v h2 e;unfold w7 at e
 (repeat' split at e)<;>first|(cases e;done)|(cases e;rfl)|exact zQ e|exact yX e|exact zW e|exact yI (fun e=>by first|(cases e;rfl)|exact zQ e|exact zW e) (fun e=>by cases e) e
theorem zjp(st x i):z8 (zba st x i):=by
 intro call t h v h2 e;unfold zba at e
 (repeat' split at e)<;>first|(cases e;done)|(cases e;rfl)|exact zQ e|exact yX e|exact zW e|exact yI (fun e=>by first|(cases e;rfl)|exact zQ e|exact zW e) (fun e=>by cases e) e
theorem zft(l st x i):z8 (wZ l st x i):=by
 intro call t h v h2 e;unfold wZ at e
 (repeat' split at e)<;>first|(cases e;done)|(cases e;rfl)|exact zQ e|exact yX e|exact zW e|exact yI (fun e=>by first|(cases e;rfl)|exact zQ e|exact zW e) (fun e=>by cases e) e
theorem zfu(l st n x i):z8 (w6 l st n x i):=by
 intro call t h v h2 e;unfold w6 at e
 (repeat' split at e)<;>first|(cases e;done)|(cases e;rfl)|exact zQ e|exact yX e|exact zW e|exact yI (fun e=>by first|(cases e;rfl)|exact zQ e|exact zW e) (fun e=>by cases e) e
theorem zfs(x i):z8 (wY x i):=by
 intro call t h v h2 e;unfold wY at e
 (repeat' split at e)<;>first|(cases e;done)|(cases e;rfl)|exact zQ e|exact yX e|exact zW e|exact yI (fun e=>by first|(cases e;rfl)|exact zQ e|exact zW e) (fun e=>by cases e) e
theorem zd9(q z ok m k):z8 (wl q z ok m k):=by
 intro call t h v h2 e;unfold wl at e;split at e
 ·refine yI (fun e=>by cases e) (fun e=>?_) e
  split at e
  ·cases e;rfl
  ·cases e
 ·cases e
theorem zcY(x i):z8 (xl x i):=by
 intro call t h v h2 e;unfold xl at e
 (repeat' split at e)<;>first|(cases e;done)|(cases e;rfl)|exact zQ e|exact yX e|exact zW e|exact yI (fun e=>by first|(cases e;rfl)|exact zQ e|exact zW e) (fun e=>by cases e) e
theorem zib(x):z8 (uL x):=by
 intro call t h v h2 e;unfold uL at e
 (repeat' split at e)<;>first|(cases e;done)|(cases e;rfl)|exact zQ e|exact yX e|exact zW e|exact yI (fun e=>by first|(cases e;rfl)|exact zQ e|exact zW e) (fun e=>by cases e) e
theorem zid(x):z8 (uM x):=by
 intro call t h v h2 e;unfold uM at e
 (repeat' split at e)<;>first|(cases e;done)|(cases e;rfl)|exact zQ e|exact yX e|exact zW e|exact yI (fun e=>by first|(cases e;rfl)|exact zQ e|exact zW e) (fun e=>by cases e) e
theorem zic(x):z8 (jE x):=by
 intro call t h v h2 e;unfold jE at e
 (repeat' split at e)<;>first|(cases e;done)|(cases e;rfl)|exact zQ e|exact yX e|exact zW e|exact yI (fun e=>by first|(cases e;rfl)|exact zQ e|exact zW e) (fun e=>by cases e) e
theorem qT(b x xs):z8 (y0 b x xs):=by
 intro call t h v h2 e;unfold y0 at e
 (repeat' split at e)<;>first|(cases e;done)|(cases e;rfl)|exact zQ e|exact yX e|exact zW e|exact yI (fun e=>by first|(cases e;rfl)|exact zQ e|exact zW e) (fun e=>by cases e) e
theorem zjr(P:Program)(o:Op)(hq:yx P o=true):z8 (cOp P o):=by
 cases o with
 |move x=>exact zd8 zcX
 |assign x=>exact zd8 zcX
 |pick c x y=>exact zf fun _=>zf fun _=>zf fun _=>zu (zh8 _ _ _)
 |build t parts=>
  unfold cOp;simp only;split
  ·exact y3 (zf fun _=>zu (zaN _ _)) zy
  ·split
   ·exact zf fun _=>zu (zaN _ _)
   ·exact zy
  ·exact zy
 |load t x=>exact zf fun _=>zf fun _=>zu (zia _ _)
 |nilCheck x=>exact zf fun _=>zu (zfr _)
 |binOp op t x y u=>
  unfold cOp;simp only;split
  ·split
   ·exact zf fun _=>zf fun _=>zu (zaL _ _ _)
   ·exact zf fun _=>zf fun _=>zu (zaL _ _ _)
   ·exact zf fun _=>zf fun _=>zu (zjq _ _ _)
  ·exact zf fun _=>zf fun _=>zu (zjl _ _ _)
  ·split
   ·exact zf fun _=>zf fun _=>zu (zb3 _ _ _)
   ·exact zf fun _=>zf fun _=>zu (zb3 _ _ _)
   ·exact zy
  ·refine y3 ?_ zy;split
   ·exact zf fun _=>zf fun _=>zu (zaM _ _ _)
   ·exact zf fun _=>zf fun _=>zu (zaM _ _ _)
   ·exact zy
  ·split
   ·exact zf fun _=>zf fun _=>zu (zb4 _ _ _)
   ·exact zf fun _=>zf fun _=>zu (zb4 _ _ _)
   ·exact zy
  ·refine y3 zy ?_;split
   ·exact zf fun _=>zf fun _=>zf fun _=>zu (zgO _ _ _ _)
   ·exact zf fun _=>zf fun _=>zf fun _=>zu (zgO _ _ _ _)
   ·exact zy
  ·exact zy
 |unOp u t x=>
  cases u with
  |not=>exact zf fun _=>zu (zjn _)
  |neg=>exact zf fun _=>zu (zjo _)
  |_=>exact zy
 |convert a b x=>
  unfold cOp;simp only;split
  ·exact zf fun _=>zu (zif _ _)
  ·rename_i h1 h2;simp only[yx,zkW,zdv,h1,h2]at hq;cases hq
  ·exact y3 (zf fun _=>zu (zjs _)) zy
  ·exact y3 (zf fun _=>zu (zjm _)) zy
  ·exact y3 (zf fun _=>zu (zjk _ _ _)) zy
  ·exact zy
 |makeFunc f first captured=>
  cases f with
  |func f=>exact y3 (zf fun _=>zu (zh9 _ _)) zy
  |_=>exact zy
 |slice t x lo hi mx=>
  unfold cOp;simp only;split
  ·split
   ·exact y3 zy (zf fun _=>zf fun _=>zf fun _=>zf fun _=>zu (zfq _ _ _ _ _))
   ·exact zy
  ·split
   ·exact y3 zy (zf fun _=>zf fun _=>zf fun _=>zf fun _=>zu (zd7 _ _ _ _ _ _))
   ·exact zy
  ·exact y3 zy (zf fun _=>zf fun _=>zf fun _=>zu (zd6 _ _ _))
  ·exact zy
 |fieldAddr t x f=>
  unfold cOp;simp only;split
  ·split
   ·split
    ·exact y3 zy (zf fun _=>zu (zie _ _))
    ·exact zy
   ·exact zy
  ·exact zy
 |field t x f=>
  unfold cOp;simp only;split
  ·split
   ·exact zf fun _=>zf fun _=>zu (zfv _ _ _)
   ·exact zy
  ·exact zy
 |indexAddr t x i=>
  unfold cOp;simp only;split
  ·split
   ·exact zf fun _=>zf fun _=>zu (zjp _ _ _)
   ·exact zy
  ·split
   ·exact zf fun _=>zf fun _=>zu (zft _ _ _ _)
   ·exact zy
  ·exact zy
 |index t x i=>
  unfold cOp;simp only;split
  ·split
   ·exact zf fun _=>zf fun _=>zf fun _=>zu (zfu _ _ _ _ _)
   ·exact zy
  ·exact zf fun _=>zf fun _=>zu (zfs _ _)
  ·exact zy
 |lookup t m k ok=>
  unfold cOp;simp only;split
  ·exact zf fun _=>zf fun _=>zf fun _=>zf fun _=>zu (zd9 _ _ _ _ _)
  ·exact zy
 |extract x i=>exact zf fun _=>zu (zcY _ _)
 |call c=>
  obtain⟨callee,args,ts⟩:=c;cases callee with
  |builtin b=>
   cases b with
   |len=>
    unfold cOp;simp only;split
    ·split
     ·exact zf fun _=>zu (zib _)
     ·exact zf fun _=>zu (zid _)
     ·exact zf fun _=>zu (zic _)
     ·exact zu (zcX _)
     ·exact zy
    ·exact zy
   |max=>
    unfold cOp;simp only;split
    ·exact zu (qT _ _ _)
    ·exact zy
   |min=>
    unfold cOp;simp only;split
    ·exact zu (qT _ _ _)
    ·exact zy
   |_=>cases hq
  |_=>cases hq
 |_=>cases hq
end Go.CE
end
section
namespace Go.CE
open Go.RowKit
theorem and2{a b:Bool}(h:(a&&b)=true):a=true∧b=true:=by simpa using h
theorem u3:∀{a b:BN},eqBN a b=true→a=b
 | .z,.z,_=>rfl
 | .o a,.o b,h=>by rw[u3 (a:=a) (b:=b) h]
 | .d a,.d b,h=>by rw[u3 (a:=a) (b:=b) h]
 | .z,.o _,h=>by cases h
 | .z,.d _,h=>by cases h
 | .o _,.z,h=>by cases h
 | .o _,.d _,h=>by cases h
 | .d _,.z,h=>by cases h
 | .d _,.o _,h=>by cases h
theorem zll{a b:Bool}(h:eqB a b=true):a=b:=by cases a<;>cases b<;>first|rfl|cases h
theorem zlh:∀{a b:List (BN×Nat)},eqPs a b=true→a=b
 | [],[],_=>rfl
 |(b,o)::l,(b',o')::l',h=>by
  obtain⟨h1,h2⟩:=and2 h;obtain⟨h3,h4⟩:=and2 h1;rw[u3 h3,beq_true h4,zlh h2]
 | [],_::_,h=>by cases h
 |_::_,[],h=>by cases h
theorem zog:∀{a b:List UInt8},eqU a b=true→a=b
 | [],[],_=>rfl
 |a::l,b::l',h=>by
  obtain⟨h1,h2⟩:=and2 h;rw[UInt8.toNat_inj.1 (beq_true h1),zog h2]
 | [],_::_,h=>by cases h
 |_::_,[],h=>by cases h
theorem zny{a b:ByteArray}(h:eqU a.data.toList b.data.toList=true):a=b:=by
 have:=zog h;cases a;cases b
 congr 1
 exact Array.ext' this
theorem eqII{a b:Int}(h:eqI a b=true):a=b:=by rw[uZ]at h;simpa using h
theorem zle{a b:CVal}(h:eqV a b=true):a=b:=by
 cases a<;>cases b<;>first
  |rfl
  |(cases h;done)
  |skip
 ·exact congrArg _ (zll h)
 ·obtain⟨h1,h2⟩:=and2 h;rw[zgb h1,eqII h2]
 ·exact congrArg _ (zny h)
 ·obtain⟨h1,h2⟩:=and2 h;rw[u3 h1,beq_true h2]
 ·obtain⟨h1,h2⟩:=and2 h;obtain⟨h1,h3⟩:=and2 h1;obtain⟨h1,h4⟩:=and2 h1;obtain⟨h1,h5⟩:=and2 h1;rw[u3 h1,beq_true h5,beq_true h4,beq_true h3,zll h2]
 ·exact congrArg _ (u3 h)
 ·obtain⟨h1,h2⟩:=and2 h;rw[beq_true h1,zlh h2]
 ·exact congrArg _ (u3 h)
 ·obtain⟨h1,h2⟩:=and2 h;rw[beq_true h1,beq_true h2]
theorem zf9:∀{a b:List CVal},eqVs a b=true→a=b
 | [],[],_=>rfl
 |a::l,b::l',h=>by
  obtain⟨h1,h2⟩:=and2 h;rw[zle h1,zf9 h2]
 | [],_::_,h=>by cases h
 |_::_,[],h=>by cases h
theorem zlf{a b:SVal}(h:eqSv a b=true):a=b:=by
 cases a<;>cases b<;>first
  |(cases h;done)
  |exact congrArg _ (zle h)
  |exact congrArg _ (zf9 h)
theorem zlg:∀{a b:List SVal},eqSs a b=true→a=b
 | [],[],_=>rfl
 |a::l,b::l',h=>by
  obtain⟨h1,h2⟩:=and2 h;rw[zlf h1,zlg h2]
 | [],_::_,h=>by cases h
 |_::_,[],h=>by cases h
theorem zhG{a b:AVal}(h:eqA a b=true):a=b:=by
 cases a<;>cases b<;>first
  |(cases h;done)
  |exact congrArg _ (zlf h)
  |exact congrArg _ (zlg h)
noncomputable def frL(L:Nat→Bool):Nat→List (Option BN×AVal)→Tr AVal→Tr AVal
 |_,[],t=>t
 |i,(d,v)::r,t=>frL L (i+1) r (bif L i then setT t v d else t)
open Classical in
noncomputable def lw(L:Nat→Bool)(s:BN):Nat→List (Option BN×AVal)→Option AVal
 |_,[]=>none
 |i,(d,v)::r=>(lw L s (i+1) r).or (if L i=true∧d=some s then some v else none)
theorem zc0(t:Tr AVal)(v:AVal)(d:Option BN)(s:BN)[Decidable (d=some s)]:(setT t v d).get s=if d=some s then some v else t.get s:=by
 cases d with
 |none=>simp[setT]
 |some d=>
  by_cases h:d=s
  ·subst h;simp[setT,zw]
  ·rw[if_neg (fun hh=>h (Option.some.inj hh))]
   exact zo _ _ _ _ (fun hh=>h hh.symm)
section
variable {L L':Nat→Bool} {s:BN}
open Classical in
theorem ur:∀(r:List (Option BN×AVal)) (i:Nat) (t:Tr AVal),(frL L i r t).get s=(lw L s i r).or (t.get s)
 | [],i,t=>rfl
 |(d,v)::r,i,t=>by
  unfold frL lw;rw[ur r (i+1),Option.or_assoc]
  congr 1
  cases hL:L i with
  |false=>simp
  |true=>
   simp only[cond_true,true_and];rw[zc0];split<;>simp
theorem kM:∀(r:List (Option BN×AVal)) (i:Nat),(∀j d v,r[j]? = some (d,v)→d=some s→L (i+j)=L' (i+j))→lw L s i r=lw L' s i r
 | [],i,_=>rfl
 |(d,v)::r,i,h=>by
  unfold lw;rw[kM r (i+1) fun j d v hj hd=>by have:=h (j+1) d v (by simpa using hj) hd;rwa [show i+(j+1)=i+1+j by omega]at this]
  congr 1
  by_cases hd:d=some s
  ·have:=h 0 d v (by simp) hd
   simp only[Nat.add_zero]at this;rw[this]
  ·simp[hd]
theorem zkJ:∀(r:List (Option BN×AVal)) (i:Nat),(∀j d v,r[j]? = some (d,v)→d=some s→L (i+j)=false)→lw L s i r=none
 | [],i,_=>rfl
 |(d,v)::r,i,h=>by
  unfold lw;rw[zkJ r (i+1) fun j d v hj hd=>by have:=h (j+1) d v (by simpa using hj) hd;rwa [show i+(j+1)=i+1+j by omega]at this]
  by_cases hd:d=some s
  ·have:=h 0 d v (by simp) hd
   simp only[Nat.add_zero]at this;simp[this]
  ·simp[hd]
theorem zfS:∀(r:List (Option BN×AVal)) (i k:Nat) (v:AVal),r[k]? = some (some s,v)→L (i+k)=true→(∀j d u,k<j→r[j]? = some (d,u)→d=some s→L (i+j)=false)→lw L s i r=some v
 | [],i,k,v,hk,_,_=>by simp at hk
 |(d,u)::r,i,0,v,hk,hL,h=>by
  simp only[List.getElem?_cons_zero,Option.some.injEq,Prod.mk.injEq]at hk;obtain⟨rfl,rfl⟩:=hk;unfold lw;rw[zkJ r (i+1) fun j d v hj hd=>by have:=h (j+1) d v (by omega) (by simpa using hj) hd;rwa [show i+(j+1)=i+1+j by omega]at this]
  simp only[Nat.add_zero]at hL;simp[hL]
 |(d,u)::r,i,k+1,v,hk,hL,h=>by
  unfold lw;rw[zfS r (i+1) k v (by simpa using hk) (by rwa [show i+1+k=i+(k+1) by omega]) fun j d v hj hjr hd=>by
   have:=h (j+1) d v (by omega) (by simpa using hjr) hd;rwa [show i+(j+1)=i+1+j by omega]at this]
  rfl
theorem zhw(d:Option BN)(v:AVal)(r:List (Option BN×AVal))(i:Nat)(t:Tr AVal):frL L i ((d,v)::r) t=frL L (i+1) r (bif L i then setT t v d else t):=rfl
theorem zlw(e:Bool)(es:List Bool)(i:Nat):ce L i (e::es)=bif L i&&e then ce L (i+1) es+1 else ce L (i+1) es:=rfl
theorem zbw:∀(r:List (Option BN×AVal)) (i:Nat) (t:Tr AVal),frL L (i+1) r t=frL (fun k=>L (k+1)) i r t
 | [],i,t=>rfl
 |(d,v)::r,i,t=>by unfold frL;exact zbw r (i+1) _
theorem kU:∀(r:List (Option BN×AVal)) (i:Nat) (t:Tr AVal),(∀j,j<r.length→L (i+j)=L' (i+j))→frL L i r t=frL L' i r t
 | [],i,t,_=>rfl
 |(d,v)::r,i,t,h=>by
  unfold frL;have h0:=h 0 (by simp)
  simp only[Nat.add_zero]at h0;rw[h0];exact kU r (i+1) _ fun j hj=>by have:=h (j+1) (by simpa using hj);rwa [show i+(j+1)=i+1+j by omega]at this
theorem zdU:∀(es:List Bool) (i:Nat),ce L (i+1) es=ce (fun k=>L (k+1)) i es
 | [],i=>rfl
 |e::es,i=>by
  unfold ce;rw[Nat.succ_eq_add_one,Nat.succ_eq_add_one,zdU es (i+1)]
theorem wo:∀(es:List Bool) (i:Nat),(∀j,es[j]? = some true→L (i+j)=L' (i+j))→ce L i es=ce L' i es
 | [],i,_=>rfl
 |e::es,i,h=>by
  unfold ce;have ih:=wo es (i+1) fun j hj=>by have:=h (j+1) (by simpa using hj);rwa [show i+(j+1)=i+1+j by omega]at this
  rw[Nat.succ_eq_add_one,ih];cases e with
  |false=>simp
  |true=>
   have h0:=h 0 (by simp)
   simp only[Nat.add_zero]at h0;rw[h0]
theorem xS:∀(es:List Bool) (i:Nat),(∀j,es[j]? = some true→L (i+j)=true→L' (i+j)=true)→ce L i es≤ce L' i es
 | [],i,_=>LzB _
 |e::es,i,h=>by
  unfold ce;have ih:=xS es (i+1) fun j hj hL=>by have:=h (j+1) (by simpa using hj) (by rwa [show i+(j+1)=i+1+j by omega]);rwa [show i+(j+1)=i+1+j by omega]at this
  simp only[Nat.succ_eq_add_one];cases e with
  |false=>simpa using ih
  |true=>
   have h0:=h 0 (by simp)
   simp only[Nat.add_zero]at h0;cases hL:L i with
   |false=>cases L' i<;>simp<;>omega
   |true=>rw[h0 hL];simp;omega
theorem ze3:∀(es:List Bool) (i k:Nat),es[k]? = some true→L (i+k)=false→L' (i+k)=true→(∀j,j≠i+k→L' j=L j)→ce L' i es=ce L i es+1
 | [],i,k,hk,_,_,_=>by simp at hk
 |e::es,i,0,hk,h1,h2,h3=>by
  simp only[List.getElem?_cons_zero,Option.some.injEq]at hk;subst hk;simp only[Nat.add_zero]at h1 h2 h3;unfold ce;rw[h1,h2];simp only[Nat.succ_eq_add_one,Bool.and_true,cond_true,cond_false];rw[wo (L:=L') (L':=L) es (i+1) fun j _=>h3 _ (by omega)]
 |e::es,i,k+1,hk,h1,h2,h3=>by
  unfold ce;have ih:=ze3 es (i+1) k (by simpa using hk) (by rwa [show i+1+k=i+(k+1) by omega]) (by rwa [show i+1+k=i+(k+1) by omega]) fun j hj=>h3 j (by omega)
  simp only[Nat.succ_eq_add_one];rw[ih,h3 i (by omega)]
  cases (L i&&e)<;>simp
end
theorem wS(t:Tr AVal)(s:BN)[DecidableEq BN]:∀(l:List BN),(ui t l).get s=if s∈l then t.get s else none
 | []=>by cases s<;>rfl
 |x::l=>by
  unfold ui;split
  ·rename_i v hv;by_cases hx:s=x
   ·subst hx;rw[zw,hv];simp
   ·rw[zo _ _ _ _ hx,wS t s l];simp[hx]
  ·rename_i hv;rw[wS t s l];by_cases hx:s=x
   ·subst hx;simp[hv]
   ·simp[hx]
def dv(x:DOper×Tr AVal×AVal):Option BN×AVal:=(x.1.rop.dst,x.2.2)
theorem zdH(call:zh):∀(ds:List DOper) (t:Tr AVal) (h:AHeap) (l:List (DOper×Tr AVal×AVal)) (t2:Tr AVal) (hs:List AHeap),evD call ds t h=some (l,t2,hs)→
  l.map (·.1)=ds∧hs[0]? = some h∧hs.length=ce (fun _=>true) 0 (ds.map (·.eff))+1∧t2=frL (fun _=>true) 0 (l.map dv) t∧
  ∀j d tr v,l[j]? = some (d,tr,v)→tr=ui (frL (fun k=>decide (k<j)) 0 (l.map dv) t) d.looks∧
   ∃hk h',hs[ce (fun k=>decide (k<j)) 0 (ds.map (·.eff))]? = some hk∧xj call d.rop tr hk=some (v,h')∧(d.eff=true→hs[ce (fun k=>decide (k<j)) 0 (ds.map (·.eff))+1]? = some h')
 | [],t,h,l,t2,hs,e=>by
  cases e;exact⟨rfl,rfl,rfl,rfl,fun j d tr v hj=>by simp at hj⟩
 |d::ds,t,h,l,t2,hs,e=>by
  unfold evD at e;split at e
  ·rename_i v0 h0 hv0;cases hr:evD call ds (setT t v0 d.rop.dst) (bif d.eff then h0 else h) with
   |none=>rw[hr]at e;cases e
   |some p=>
    obtain⟨l',t',hs'⟩:=p;rw[hr]at e;simp only[zr2,Option.some.injEq,Prod.mk.injEq]at e;obtain⟨rfl,rfl,rfl⟩:=e;obtain⟨g1,g2,g3,g4,g5⟩:=zdH call ds _ _ l' _ hs' hr;have hsh:∀(L:Nat→Bool),ce L 0 ((d::ds).map (·.eff))=(bif L 0&&d.eff then 1 else 0)+ce (fun k=>L (k+1)) 0 (ds.map (·.eff)):=by
     intro L;simp only[List.map_cons];rw[zlw,zdU];cases (L 0&&d.eff)<;>simp<;>omega
    have hfr:∀(L:Nat→Bool),frL L 0 (((d,ui t d.looks,v0)::l').map dv) t=frL (fun k=>L (k+1)) 0 (l'.map dv) (bif L 0 then setT t v0 d.rop.dst else t):=by
     intro L;simp only[List.map_cons];show frL L 0 ((d.rop.dst,v0)::l'.map dv) t=_;rw[zhw,zbw]
    refine⟨by simp[g1],?_,?_,?_,?_⟩
    ·cases hd:d.eff with
     |true=>rfl
     |false=>rw[hd]at g2;exact g2
    ·rw[hsh];cases hd:d.eff with
     |true=>simp only[cond_true,List.length_cons,Bool.and_self];omega
     |false=>simp only[cond_false,Bool.and_false];omega
    ·rw[hfr,g4];rfl
    ·intro j dj tr v hj;cases j with
     |zero=>
      simp only[List.getElem?_cons_zero,Option.some.injEq,Prod.mk.injEq]at hj;obtain⟨rfl,rfl,rfl⟩:=hj;have hz:ce (fun k=>decide (k<0)) 0 ((d::ds).map (·.eff))=0:=by
       rw[hsh];simp only[Nat.not_lt_zero,decide_false,Bool.false_and,cond_false,Nat.zero_add];have:∀(es:List Bool) (i:Nat),ce (fun _=>false) i es=0:=by
        intro es
        induction es with
        |nil=>intro i;rfl
        |cons e es ih=>intro i;unfold ce;simp[ih]
       exact this _ _
      refine⟨?_,h,h0,?_,hv0,?_⟩
      ·rw[hfr];simp only[Nat.not_lt_zero,decide_false,cond_false]
       congr 1
       have:∀(r:List (Option BN×AVal)) (i:Nat) (t:Tr AVal),frL (fun _=>false) i r t=t:=by
        intro r
        induction r with
        |nil=>intro i t;rfl
        |cons p r ih=>intro i t;obtain⟨d,v⟩:=p;unfold frL;exact ih _ _
       exact(this _ _ _).symm
      ·rw[hz];cases hd:d.eff with
       |true=>rfl
       |false=>rw[hd]at g2;exact g2
      ·intro hd;rw[hz];rw[hd]at g2 ⊢;exact g2
     |succ j=>
      simp only[List.getElem?_cons_succ]at hj;obtain⟨k1,hk,h',k2,k3,k4⟩:=g5 j dj tr v hj;have hc:ce (fun k=>decide (k<j+1)) 0 ((d::ds).map (·.eff))=(bif d.eff then 1 else 0)+ce (fun k=>decide (k<j)) 0 (ds.map (·.eff)):=by
       rw[hsh];simp
      refine⟨?_,hk,h',?_,k3,?_⟩
      ·rw[hfr,k1];simp
      ·rw[hc];cases hd:d.eff with
       |true=>simp only[cond_true];rw[Nat.add_comm 1,List.getElem?_cons_succ];exact k2
       |false=>simp only[cond_false,Nat.zero_add];exact k2
      ·intro hdj;rw[hc];cases hd:d.eff with
       |true=>simp only[cond_true];rw[Nat.add_comm 1,List.getElem?_cons_succ];exact k4 hdj
       |false=>simp only[cond_false,Nat.zero_add];exact k4 hdj
  ·cases e
theorem zaS{call:zh}{o:ROper}{tr:Tr AVal}{v:AVal}:∀(hs:List AHeap),sameAt call o tr v hs=true→∀(k:Nat) (hk:AHeap),hs[k]? = some hk→∃h',xj call o tr hk=some (v,h')
 | [],_,k,hk,hh=>by simp at hh
 |h::hs,e,k,hk,hh=>by
  unfold sameAt at e;split at e
  ·rename_i v' h' hv;obtain⟨e1,e2⟩:=and2 e;cases k with
   |zero=>
    simp only[List.getElem?_cons_zero,Option.some.injEq]at hh;subst hh;exact⟨h',by rw[hv,zhG e1]⟩
   |succ k=>exact zaS hs e2 k hk (by simpa using hh)
  ·cases e
theorem zbF{call:zh}{hs:List AHeap}:∀(l:List (DOper×Tr AVal×AVal)),vB call hs l=true→∀(j:Nat) (d:DOper) (tr:Tr AVal) (v:AVal),l[j]? = some (d,tr,v)→d.eff=false→
  d.lo=d.hi∨∀k hk,d.lo≤k→k≤d.hi→hs[k]? = some hk→∃h',xj call d.rop tr hk=some (v,h')
 | [],_,j,d,tr,v,hj,_=>by simp at hj
 |(d0,tr0,v0)::l,e,j,d,tr,v,hj,hd=>by
  obtain⟨e1,e2⟩:=and2 e;cases j with
  |zero=>
   simp only[List.getElem?_cons_zero,Option.some.injEq,Prod.mk.injEq]at hj;obtain⟨rfl,rfl,rfl⟩:=hj;rw[hd]at e1;simp only[Bool.false_or,Bool.or_eq_true]at e1;rcases e1 with e1|e1
   ·exact .inl (beq_true e1)
   ·refine .inr fun k hk h1 h2 h3=>?_
    refine zaS _ e1 (k-d0.lo) hk ?_;rw[List.getElem?_take_of_lt (by show k-d0.lo<Nat.sub (Nat.succ d0.hi) d0.lo;have:Nat.sub (Nat.succ d0.hi) d0.lo=d0.hi+1-d0.lo:=rfl;omega),List.getElem?_drop]
    rw[show d0.lo+(k-d0.lo)=k by omega]
    exact h3
  |succ j=>exact zbF l e2 j d tr v (by simpa using hj) hd
theorem zdr:∀(hs:List AHeap) (h:AHeap),hs≠[]→hs[hs.length-1]? = some (zbV h hs)
 | [],_,h=>absurd rfl h
 | [x],_,_=>rfl
 |x::y::hs,h,_=>by
  have:=zdr (y::hs) x (by simp)
  simpa[zbV] using this
theorem zbH(P:Program)(nt:Nat)(ops:Array Oper)(bs:List Nat)(es:List Bool):∀(os:List Oper) (i j:Nat),(vO P nt ops bs es i os)[j]? = (os[j]?).map fun o=>
  (⟨yL P nt ops o,(o.looksAt ops).map bn,!yx P o.op,ce (fun k=>bef bs k (i+j)) 0 es,ce (fun k=>!bef bs (i+j) k) 0 es⟩:DOper)
 | [],i,j=>by simp[vO]
 |o::os,i,0=>by simp[vO]
 |o::os,i,j+1=>by
  simp only[vO,List.getElem?_cons_succ];rw[zbH P nt ops bs es os (Nat.succ i) j,show Nat.succ i+j=i+(j+1) by omega]
theorem zbI(P:Program)(nt:Nat)(ops:Array Oper)(bs:List Nat)(es:List Bool):∀(os:List Oper) (i:Nat),(vO P nt ops bs es i os).map (·.eff)=effs P os
 | [],i=>rfl
 |o::os,i=>by
  have:=zbI P nt ops bs es os (Nat.succ i);simp only[vO,List.map_cons,this];rfl
theorem vn{p:Nat→Oper→Bool}:∀(os:List Oper) (i:Nat),allI p i os=true→∀(j:Nat) (o:Oper),os[j]? = some o→p (i+j) o=true
 | [],_,_,j,o,hj=>by simp at hj
 |o::os,i,e,0,o',hj=>by
  simp only[List.getElem?_cons_zero,Option.some.injEq]at hj;subst hj;exact(and2 e).1
 |o::os,i,e,j+1,o',hj=>by
  have:=vn os (Nat.succ i) (and2 e).2 j o' (by simpa using hj)
  rwa [show Nat.succ i+j=i+(j+1) by omega]at this
section
variable {ops:Array Oper}
def Rdy(ops:Array Oper)(L:Nat→Bool)(i:Nat):Prop:=∀o e,ops[i]? = some o→e∈o.after.toList→Region.binds .any e=true→L e.on=true
def Clo(ops:Array Oper)(L:Nat→Bool):Prop:=∀i,L i=true→Rdy ops L i
def zqm(ops:Array Oper)(acc:List Nat):Prop:=∀(i x:Nat),acc[i]? = some x→∀(j:Nat),Nat.testBit x j=true→∀(L:Nat→Bool),Clo ops L→Rdy ops L i→L j=true
theorem qO{acc:List Nat}{j:Nat}:∀(es:List Edge),Nat.testBit (zgx acc es) j=true→∃e∈es,Region.binds .any e=true∧(e.on=j∨∃x,acc[e.on]? = some x∧Nat.testBit x j=true)
 | [],h=>by simp[zgx]at h
 |e::es,h=>by
  unfold zgx at h;cases hb:Region.binds .any e with
  |false=>
   rw[hb]at h;obtain⟨e',h1,h2⟩:=qO es h;exact⟨e',by simp[h1],h2⟩
  |true=>
   rw[hb]at h;simp only[cond_true]at h;have h:Nat.testBit ((2^e.on ||| (acc[e.on]?).getD 0) ||| zgx acc es) j=true:=h
   rw[Nat.testBit_or,Nat.testBit_or,Bool.or_eq_true,Bool.or_eq_true]at h;rcases h with (h|h)|h
   ·rw[Nat.testBit_two_pow]at h;exact⟨e,by simp,hb,.inl (by simpa using h)⟩
   ·cases hx:acc[e.on]? with
    |none=>rw[hx]at h;simp at h
    |some x=>rw[hx]at h;exact⟨e,by simp,hb,.inr ⟨x,hx,h⟩⟩
   ·obtain⟨e',h1,h2⟩:=qO es h;exact⟨e',by simp[h1],h2⟩
theorem zbM:∀(os pre:List Oper) (acc:List Nat),ops.toList=pre++os→acc.length=pre.length→zqm ops acc→zqm ops (zhX os acc)
 | [],_,acc,_,_,hg=>hg
 |o::os,pre,acc,hp,hl,hg=>by
  unfold zhX;refine zbM os (pre++[o]) _ (by simp[hp]) (by simp[hl]) ?_
  intro i x hi j hj L hC hR;by_cases hlt:i<acc.length
  ·rw[Lz2 hlt]at hi;exact hg i x hi j hj L hC hR
  ·rw[Lz8 (by omega)]at hi
   have h0:i-acc.length=0:=by
    apply Decidable.byContradiction;intro hne;rw[List.getElem?_eq_none (by simp;omega)]at hi
    cases hi
   rw[h0]at hi;simp only[List.getElem?_cons_zero,Option.some.injEq]at hi;subst hi;obtain⟨e,he,hb,hh⟩:=qO _ hj;have ho:ops[i]? = some o:=by
    rw[←LzA,hp,Lz8 (by omega)]
    rw[show i-pre.length=0 by omega]
    rfl
   have hon:=hR o e ho he hb;rcases hh with hh|⟨x,hx,hh⟩
   ·rw[←hh];exact hon
   ·exact hg _ x hx j hh L hC (hC _ hon)
theorem x4{i j:Nat}(h:bef (befs ops.toList) j i=true){L:Nat→Bool}(hC:Clo ops L)(hR:Rdy ops L i):L j=true:=by
 have hg:zqm ops (befs ops.toList):=zbM ops.toList [] [] rfl rfl (fun i x hi=>by simp at hi)
 unfold bef at h;cases hx:(befs ops.toList)[i]? with
 |none=>rw[hx]at h;simp at h
 |some x=>rw[hx]at h;exact hg i x hx j h L hC hR
def lst(listed:Array Bool)(i:Nat):Bool:=listed.getD i false
theorem mem_ready{listed:Array Bool}{i:Nat}(h:i∈Region.ready .any ops listed):∃o,ops[i]? = some o∧i<listed.size∧lst listed i=false∧Rdy ops (lst listed) i:=by
 unfold Region.ready at h;rw[List.mem_filter]at h;obtain⟨h1,h2⟩:=h;obtain⟨h3,h4⟩:=and2 h2;have hlt:i<listed.size:=by
  apply Decidable.byContradiction;intro hn;rw[Array.getD_eq_getD_getElem?,Array.getElem?_eq_none (by omega)]at h3
  simp at h3
 cases ho:ops[i]? with
 |none=>rw[ho]at h4;simp at h4
 |some o=>
  rw[ho]at h4;refine⟨o,rfl,hlt,?_,?_⟩
  ·unfold lst;rw[Array.getD_eq_getD_getElem?,Array.getElem?_eq_getElem hlt]at h3 ⊢
   simpa using h3
  ·intro o' e ho' he hb;cases ho.symm.trans ho';simp only[Option.map_some,Option.getD_some,Array.all_eq_true']at h4;have:=h4 e (by simpa using he)
   rw[hb]at this
   simpa[lst] using this
theorem zjN{listed:Array Bool}(hsz:listed.size=ops.size){i:Nat}{o:Oper}(ho:ops[i]? = some o)(hl:lst listed i=false)(hR:Rdy ops (lst listed) i):i∈Region.ready .any ops listed:=by
 have hi:i<ops.size:=(Lz7.1 ho).1;unfold Region.ready;rw[List.mem_filter];refine⟨by simpa using hi,?_⟩
 rw[LzC]
 constructor
 ·unfold lst at hl;rw[Array.getD_eq_getD_getElem?,Array.getElem?_eq_getElem (by omega)]at hl ⊢
  simpa using hl
 ·rw[ho];simp only[Option.map_some,Option.getD_some,Array.all_eq_true'];intro e he;cases hb:Region.binds .any e with
  |false=>rfl
  |true=>simpa[lst] using hR o e ho (by simpa using he) hb
theorem zcN{listed:Array Bool}(hsz:listed.size=ops.size)(hA:∀(i:Nat) (o:Oper) (e:Edge),ops[i]? = some o→e∈o.after.toList→Region.binds .any e=true→e.on<i)
  (hnil:Region.ready .any ops listed=[]):∀i,i<ops.size→lst listed i=true:=by
 intro i
 induction i using Nat.strongRecOn with
 |_ i ih=>
  intro hi;cases hl:lst listed i with
  |true=>rfl
  |false=>
   have:=zjN (ops:=ops) hsz (Array.getElem?_eq_getElem hi) hl (fun o e ho he hb=>by
    have h1:=hA i o e ho he hb;exact ih _ h1 (by omega))
   rw[hnil]at this;cases this
theorem wx{listed:Array Bool}{i:Nat}(hi:i<listed.size)(j:Nat):lst (listed.setIfInBounds i true) j=(decide (j=i)||lst listed j):=by
 unfold lst;rw[Array.getD_eq_getD_getElem?,Array.getD_eq_getD_getElem?,Array.getElem?_setIfInBounds];by_cases h:i=j
 ·subst h;simp[hi]
 ·rw[if_neg h];have:¬j=i:=fun e=>h e.symm
  simp[this]
def unl(listed:Array Bool):Nat:=listed.toList.count false
theorem zjg{listed:Array Bool}{i:Nat}(hi:i<listed.size)(hl:lst listed i=false):unl (listed.setIfInBounds i true)+1=unl listed:=by
 unfold unl;rw[Array.toList_setIfInBounds,List.count_set (by simpa using hi)]
 have hg:listed.toList[i]'(by simpa using hi)=false:=by
  unfold lst at hl;rw[Array.getD_eq_getD_getElem?,Array.getElem?_eq_getElem hi]at hl
  simpa using hl
 have hpos:0<listed.toList.count false:=List.count_pos_iff.2 (by rw[←hg];exact List.getElem_mem _)
 rw[hg];simp only[beq_self_eq_true,if_true];have:(true==false)=false:=rfl;rw[this];simp only[Bool.false_eq_true,if_false];omega
theorem zgN{listed:Array Bool}(h:unl listed=0){i:Nat}(hi:i<listed.size):lst listed i=true:=by
 unfold unl at h;rw[List.count_eq_zero]at h;unfold lst;rw[Array.getD_eq_getD_getElem?,Array.getElem?_eq_getElem hi];simp only[Option.getD_some];cases hb:listed[i] with
 |true=>rfl
 |false=>exact absurd (by rw[←hb];simp) h
end
end Go.CE
end
section
namespace Go.CE
open Go.RowKit
section
variable {P:Program} {w0:World} {S:Nat→Prop} {nt:Nat} {call:zh} {ops:Array Oper}
theorem TRel.of_get{φ:Phi}{n:Nat}{t t':Tr AVal}{arr:Array Value}(T:TRel φ nt n t arr)(h:∀s,t'.get s=t.get s):TRel φ nt n t' arr:=
 ⟨T.size,fun i hi=>by rw[h];exact T.get i hi,fun i hi=>by rw[h];exact T.out i hi,fun i v hv=>T.wf i v (by rw[←h];exact hv)⟩
noncomputable def wA(φ:Phi)(nt:Nat)(t:Tr AVal):Array Value:=Array.ofFn (n:=nt) fun i=>zp φ ((t.get (bn i.val)).getD z7)
theorem ze0{φ:Phi}{n:Nat}{t:Tr AVal}(h1:∀i,nt≤i→t.get (bn i)=none)(h2:∀i v,t.get i=some v→wfA φ n v):TRel φ nt n t (wA φ nt t):=
 ⟨by simp[wA],fun i hi=>by simp[wA,hi],h1,h2⟩
theorem zeV{φ:Phi}{t:Tr AVal}{h h2:AHeap}{a:Act}{v:AVal}{o:Oper}(e:xj call (yL P nt ops o) t h=some (v,h2))(T:TRel φ nt h.n.toNat t a.tmps):
  (Region.wanted o (yielded ops a.tmps)=true∧cOp P o.op call t h=some (v,h2))∨(Region.wanted o (yielded ops a.tmps)=false∧v=z7∧h2=h):=by
 unfold yL at e;have bad:∀{o':ROper},o'=⟨none,yV,none⟩→xj call o' t h=some (v,h2)→False:=by
  intro o' ho' e;subst ho';cases e
 cases hd:inT nt o.dst with
 |false=>rw[hd]at e;exact(bad rfl e).elim
 |true=>
  rw[hd]at e;simp only[cond_true]at e;have fin:∀g,xj call ⟨o.dst.map bn,cOp P o.op,g⟩ t h=some (v,h2)→(want t g=true∧cOp P o.op call t h=some (v,h2))∨(want t g=false∧v=z7∧h2=h):=by
   intro g e;unfold xj at e;simp only at e;cases hw:want t g with
   |false=>rw[hw]at e;cases e;exact .inr ⟨rfl,rfl,rfl⟩
   |true=>rw[hw]at e;exact .inl ⟨rfl,e⟩
  split at e
  ·rename_i hg;rcases fin none e with hh|⟨hw,_⟩
   ·exact .inl ⟨by simp[Region.wanted,hg],hh.2⟩
   ·cases hw
  ·rename_i j b hg;split at e
   ·rename_i d hjd;cases hb:Nat.ble (Nat.succ d) nt with
    |false=>rw[hb]at e;exact(bad rfl e).elim
    |true=>
     rw[hb]at e;have hyd:=qk T hjd (zT hb) b;rcases fin (some (bn d,b)) e with⟨hw,hh⟩|⟨hw,hh⟩
     ·exact .inl ⟨by simp only[Region.wanted,hg];rw[hyd];exact hw,hh⟩
     ·exact .inr ⟨by simp only[Region.wanted,hg];rw[hyd];exact hw,hh⟩
   ·exact(bad rfl e).elim
theorem k7{t:Tr AVal}{h:AHeap}{r:AVal×AHeap}{o:Oper}(e:xj call (yL P nt ops o) t h=some r):(yL P nt ops o).dst=o.dst.map bn∧inT nt o.dst=true:=by
 have bad:∀{o':ROper},o'=⟨none,yV,none⟩→xj call o' t h=some r→False:=by
  intro o' ho' e;subst ho';cases e
 unfold yL at e ⊢;cases hd:inT nt o.dst with
 |false=>rw[hd]at e;exact(bad rfl e).elim
 |true=>
  rw[hd]at e;simp only[cond_true]at e ⊢;cases hg:o.guard with
  |none=>exact⟨rfl,trivial⟩
  |some gb=>
   obtain⟨j,b⟩:=gb;rw[hg]at e;simp only at e ⊢;cases hj:(ops[j]?).bind (·.dst) with
   |none=>rw[hj]at e;exact(bad rfl e).elim
   |some d=>
    rw[hj]at e;simp only at e ⊢;cases hb:Nat.ble (Nat.succ d) nt with
    |false=>rw[hb]at e;exact(bad rfl e).elim
    |true=>exact⟨rfl,trivial⟩
theorem zgi(hok:k8 P ops (befs ops.toList)=true):(∀(i:Nat) (o:Oper),ops[i]? = some o→(∀cs b,o.op≠.select cs b)∧∀e∈o.after.toList,Region.binds .any e=true→e.on<i)∧
  ∀(i j:Nat) (oi oj:Oper),ops[i]? = some oi→ops[j]? = some oj→i<j→bef (befs ops.toList) i j=true∨(oi.apart ops oj=true∧(yx P oi.op=true∨yx P oj.op=true)):=by
 obtain⟨h1,h2⟩:=and2 hok
 constructor
 ·intro i o ho;have:=vn _ 0 h1 i o (by rw[LzA];exact ho)
  rw[Nat.zero_add]at this;obtain⟨g1,g2⟩:=and2 this;refine⟨(fun cs b hh=>by rw[hh]at g1;cases g1),fun e he hb=>?_⟩
  rw[List.all_eq_true]at g2;have:=g2 e he;rw[hb]at this;exact zT (by simpa using this)
 ·intro i j oi oj hi hj hlt;have:=vn _ 0 h2 j oj (by rw[LzA];exact hj)
  rw[Nat.zero_add]at this;have:=vn _ 0 this i oi (by rw[LzA];exact hi)
  rw[Nat.zero_add]at this;simp only[Bool.or_eq_true]at this;rcases this with (this|this)|this
  ·have hle:Nat.ble (Nat.succ i) j=true:=Nat.ble_eq_true_of_le hlt;rw[hle]at this;cases this
  ·exact .inl this
  ·obtain⟨k1,k2⟩:=and2 this;exact .inr ⟨k1,by simpa using k2⟩
theorem zlo(C:y8 P call){Q:Exit→Act→World→Prop}{a0:Act}{t t2:Tr AVal}{h:AHeap}{φ0:Phi}{l:List (DOper×Tr AVal×AVal)}{hs:List AHeap}{ro:Option Nat}
  (hok:k8 P ops (befs ops.toList)=true) (hev:evD call (zak P nt ops) t h=some (l,t2,hs)) (hch:vB call hs l=true)
  (hQ:∀a2 w2,Next1 w0 S φ0 nt h t2 (zbV h hs) a0 a2 w2→Q .normal a2 w2):
  ∀(fuel:Nat) (listed:Array Bool) (φ:Phi) (a:Act) (w:World) (Hk:AHeap),listed.size=ops.size→unl listed≤fuel→Clo ops (lst listed)→Ext h.n.toNat φ0 φ→
   hs[ce (lst listed) 0 (effs P ops.toList)]? = some Hk→HRel w0 S φ Hk w→h.n.toNat≤Hk.n.toNat→TRel φ nt Hk.n.toNat (frL (lst listed) 0 (l.map dv) t) a.tmps→a.defers=a0.defers→
   wpAnyIn (FR ro) 0 P .any ops Q fuel listed a w:=by
 obtain⟨hA,hord⟩:=zgi hok;obtain⟨g1,g2,g3,g4,g5⟩:=zdH call _ _ _ _ _ _ hev;have heff:(zak P nt ops).map (·.eff)=effs P ops.toList:=zbI _ _ _ _ _ _ _;rw[heff]at g3 g5;have hl:∀(j:Nat) (o:Oper),ops[j]? = some o→∃tr v,l[j]? = some ((⟨yL P nt ops o,(o.looksAt ops).map bn,!yx P o.op,ce (fun k=>bef (befs ops.toList) k j) 0 (effs P ops.toList),ce (fun k=>!bef (befs ops.toList) j k) 0 (effs P ops.toList)⟩:DOper),tr,v):=by
  intro j o ho;have h1:(zak P nt ops)[j]? = some ⟨yL P nt ops o,(o.looksAt ops).map bn,!yx P o.op,ce (fun k=>bef (befs ops.toList) k j) 0 (effs P ops.toList),ce (fun k=>!bef (befs ops.toList) j k) 0 (effs P ops.toList)⟩:=by
   unfold zak;rw[zbH,LzA,ho,Nat.zero_add];rfl
  rw[←g1,Lz6]at h1;cases hx:l[j]? with
  |none=>rw[hx]at h1;cases h1
  |some x=>
   obtain⟨d,tr,v⟩:=x;rw[hx]at h1;simp only[Option.map_some,Option.some.injEq]at h1;exact⟨tr,v,by rw[←h1]⟩
 have hlen:l.length=ops.size:=by
  have h1:=congrArg List.length g1;have h2:=congrArg List.length heff;simp only[List.length_map,effs,Array.length_toList]at h1 h2;omega
 have hdst:∀(j:Nat) (o:Oper) (d:DOper) (tr:Tr AVal) (v:AVal),ops[j]? = some o→l[j]? = some (d,tr,v)→d.rop.dst=o.dst.map bn∧inT nt o.dst=true:=by
  intro j o d tr v ho hj;obtain⟨tr',v',hj'⟩:=hl j o ho;cases hj.symm.trans hj';obtain⟨_,hk,h',_,hone,_⟩:=g5 j _ tr v hj;exact k7 hone
 have hdv:∀(j:Nat) (d:Option BN) (v:AVal) (s:BN),(l.map dv)[j]? = some (d,v)→d=some s→∃o sn,ops[j]? = some o∧o.dst=some sn∧bn sn=s:=by
  intro j d v s hj hd;rw[Lz6]at hj;cases hx:l[j]? with
  |none=>rw[hx]at hj;cases hj
  |some x=>
   obtain⟨d',tr,v'⟩:=x;rw[hx]at hj;simp only[Option.map_some,Option.some.injEq,dv,Prod.mk.injEq]at hj;have hjl:j<ops.size:=by
    have:=(Lz0.1 hx).1;omega
   have ho:ops[j]? = some ops[j]:=Array.getElem?_eq_getElem hjl;have:=(hdst j _ d' tr v' ho hx).1;rw[hj.1,hd]at this;cases hod:(ops[j]).dst with
   |none=>rw[hod]at this;cases this
   |some sn=>
    rw[hod]at this;exact⟨_,sn,ho,hod,by simpa using this.symm⟩
 have hes:∀(j:Nat),(effs P ops.toList)[j]? = some true→∃o,ops[j]? = some o∧yx P o.op=false:=by
  intro j hj;unfold effs at hj;rw[Lz6,LzA]at hj;cases ho:ops[j]? with
  |none=>rw[ho]at hj;cases hj
  |some o=>rw[ho]at hj;exact⟨o,rfl,by simpa using hj⟩
 have hes':∀(j:Nat) (o:Oper),ops[j]? = some o→(effs P ops.toList)[j]? = some (!yx P o.op):=by
  intro j o ho;unfold effs;rw[Lz6,LzA,ho];rfl
 intro fuel
 induction fuel with
 |zero=>
  intro listed φ a w Hk hsz hu hC hE hH HR hn T hdf;have hall:∀i,i<ops.size→lst listed i=true:=fun i hi=>zgN (by omega) (by omega)
  have hnil:Region.ready .any ops listed=[]:=by
   cases hr:Region.ready .any ops listed with
   |nil=>rfl
   |cons i r=>
    obtain⟨o,ho,h1,h2,h3⟩:=mem_ready (ops:=ops) (listed:=listed) (i:=i) (by rw[hr];simp)
    rw[hall i (by omega)]at h2
    cases h2
  refine⟨hnil,hQ a w ⟨φ,hE,?_,?_,hdf,?_⟩⟩
  all_goals
   have hk:Hk=zbV h hs:=by
    have h1:=zdr hs h (fun hh=>by rw[hh]at g2;cases g2)
    rw[g3,Nat.add_sub_cancel]at h1;rw[wo (L:=lst listed) (L':=fun _=>true) _ 0 (fun j hj=>by obtain⟨o,ho,_⟩:=hes j hj;rw[Nat.zero_add];exact hall j (Lz7.1 ho).1)]at hH
    exact Option.some.inj (hH.symm.trans h1)
   subst hk
  ·exact HR
  ·rw[g4,←kU (L:=lst listed) (l.map dv) 0 t (fun j hj=>by rw[Nat.zero_add];exact hall j (by simpa[hlen] using hj))]
   exact T
  ·exact hn
 |succ fuel ih=>
  intro listed φ a w Hk hsz hu hC hE hH HR hn T hdf;refine⟨fun hnil=>?_,fun i hi=>?_⟩
  ·have hall:=zcN (ops:=ops) hsz (fun i o e ho he hb=>(hA i o ho).2 e he hb) hnil
   have hk:Hk=zbV h hs:=by
    have h1:=zdr hs h (fun hh=>by rw[hh]at g2;cases g2)
    rw[g3,Nat.add_sub_cancel]at h1;rw[wo (L:=lst listed) (L':=fun _=>true) _ 0 (fun j hj=>by obtain⟨o,ho,_⟩:=hes j hj;rw[Nat.zero_add];exact hall j (Lz7.1 ho).1)]at hH
    exact Option.some.inj (hH.symm.trans h1)
   subst hk;refine hQ a w ⟨φ,hE,HR,?_,hdf,hn⟩;rw[g4,←kU (L:=lst listed) (l.map dv) 0 t (fun j hj=>by rw[Nat.zero_add];exact hall j (by simpa[hlen] using hj))]
   exact T
  ·obtain⟨o,ho,hlt,hli,hR⟩:=mem_ready hi;obtain⟨tr,v,hj⟩:=hl i o ho;obtain⟨htr,hk0,h0',hk0s,hone0,heff0⟩:=g5 i _ tr v hj;obtain⟨hnosel,hedge⟩:=hA i o ho;obtain⟨hdd,hdin⟩:=hdst i o _ tr v ho hj;have before:∀j,bef (befs ops.toList) j i=true→lst listed j=true:=fun j hb=>x4 hb hC hR
   have after:∀j,bef (befs ops.toList) i j=true→lst listed j=false:=by
    intro j hb;cases hj:lst listed j with
    |false=>rfl
    |true=>
     have:=x4 hb hC (hC j hj);rw[hli]at this;cases this
   have hCi:Clo ops (fun k=>decide (k<i)):=by
    intro j hj o' e ho' he hb;have:=(hA j o' ho').2 e he hb;simp only[decide_eq_true_eq]at hj ⊢;omega
   have hRi:Rdy ops (fun k=>decide (k<i)) i:=by
    intro o' e ho' he hb;have:=(hA i o' ho').2 e he hb
    simpa using this
   have hagree:∀s∈(o.looksAt ops).map bn,(frL (fun k=>decide (k<i)) 0 (l.map dv) t).get s=(frL (lst listed) 0 (l.map dv) t).get s:=by
    intro s hs';obtain⟨sn,hsn,rfl⟩:=List.mem_map.1 hs';rw[ur,ur]
    congr 1
    refine kM _ 0 fun j d v hjd hds=>?_
    obtain⟨oj,sj,hoj,hsj,hbe⟩:=hdv j d v _ hjd hds;have:=uz hbe;subst this;rw[Nat.zero_add];rcases Nat.lt_trichotomy j i with hji|hji|hji
    ·rcases hord j i oj o hoj ho hji with hb|⟨hap,_⟩
     ·rw[before j hb];simpa using hji
     ·exact absurd hsn ((Oper.apart_spec hap).1 _ hsj)
    ·subst hji;rw[hli];simp
    ·rcases hord i j o oj ho hoj hji with hb|⟨hap,_⟩
     ·rw[after j hb];simp;omega
     ·exact absurd hsn ((Oper.apart_spec hap).2.2 _ hsj)
   have htrg:∀s,tr.get s=(frL (lst listed) 0 (l.map dv) t).get s∧s∈(o.looksAt ops).map bn∨tr.get s=none:=by
    intro s
    classical
    have:=wS (frL (fun k=>decide (k<i)) 0 (l.map dv) t) s ((o.looksAt ops).map bn)
    rw[←htr]at this;by_cases hm:s∈(o.looksAt ops).map bn
    ·rw[if_pos hm,hagree s hm]at this;exact .inl ⟨this,hm⟩
    ·rw[if_neg hm]at this;exact .inr this
   have Tr':TRel φ nt Hk.n.toNat tr (wA φ nt tr):=by
    refine ze0 (fun j hj=>?_) (fun s v hv=>?_)
    ·rcases htrg (bn j) with⟨h1,_⟩|h1
     ·rw[h1];exact T.out j hj
     ·exact h1
    ·rcases htrg s with⟨h1,_⟩|h1
     ·rw[h1]at hv;exact T.wf s v hv
     ·rw[h1]at hv;cases hv
   have htmps:∀sn∈o.looksAt ops,a.tmps[sn]? = (wA φ nt tr)[sn]?:=by
    intro sn hsn;by_cases hlt':sn<nt
    ·rw[T.get sn hlt',Tr'.get sn hlt'];have hm:bn sn∈(o.looksAt ops).map bn:=List.mem_map.2 ⟨sn,hsn,rfl⟩;rw[←hagree _ hm]
     classical
     have:=wS (frL (fun k=>decide (k<i)) 0 (l.map dv) t) (bn sn) ((o.looksAt ops).map bn)
     rw[←htr,if_pos hm]at this;rw[this]
    ·have e1:a.tmps[sn]? = none:=Array.getElem?_eq_none (by rw[T.size];exact Nat.le_of_not_lt hlt')
     have e2:(wA φ nt tr)[sn]? = none:=Array.getElem?_eq_none (by rw[Tr'.size];exact Nat.le_of_not_lt hlt')
     rw[e1,e2]
   have hexec:execOp a.eval o=execOp ({ tmps:=wA φ nt tr,defers:=[] }:Act).eval o:=by
    refine execOp_congr o hnosel fun x hx=>?_
    cases x with
    |tmp sn=>
     have:=htmps sn (List.mem_append_left _ (List.mem_filterMap.2 ⟨.tmp sn,by simpa using hx,rfl⟩))
     simp only[Act.eval,Array.getD_eq_getD_getElem?,this]
    |_=>rfl
   have hwant:Region.wanted o (yielded ops a.tmps)=Region.wanted o (yielded ops (wA φ nt tr)):=by
    unfold Region.wanted;cases hg:o.guard with
    |none=>rfl
    |some gb=>
     obtain⟨g,b⟩:=gb;simp only;have:yielded ops a.tmps g=yielded ops (wA φ nt tr) g:=by
      unfold yielded;cases hd:(ops[g]?).bind (·.dst) with
      |none=>rfl
      |some sn=>
       have:=htmps sn (List.mem_append_right _ (by simp[hg,hd]))
       simp only[Option.bind_some,this]
     rw[this]
   have hone:∃h',xj call (yL P nt ops o) tr Hk=some (v,h')∧hs[ce (lst (listed.setIfInBounds i true)) 0 (effs P ops.toList)]? = some h':=by
    cases hq:yx P o.op with
    |false=>
     have hce:ce (lst listed) 0 (effs P ops.toList)=ce (fun k=>decide (k<i)) 0 (effs P ops.toList):=by
      refine wo _ 0 fun j hj=>?_
      obtain⟨oj,hoj,hqj⟩:=hes j hj;rw[Nat.zero_add];rcases Nat.lt_trichotomy j i with hji|hji|hji
      ·rcases hord j i oj o hoj ho hji with hb|⟨_,hqq⟩
       ·rw[before j hb];simpa using hji
       ·rw[hq,hqj]at hqq;simp at hqq
      ·subst hji;rw[hli];simp
      ·rcases hord i j o oj ho hoj hji with hb|⟨_,hqq⟩
       ·rw[after j hb];simp;omega
       ·rw[hq,hqj]at hqq;simp at hqq
     rw[hce]at hH;cases hH.symm.trans hk0s;refine⟨h0',hone0,?_⟩;have:=heff0 (by simp[hq])
     rw[←hce]at this;rw[ze3 (L:=lst listed) (effs P ops.toList) 0 i (by rw[hes' i o ho,hq];rfl) (by rw[Nat.zero_add];exact hli) (by rw[wx hlt];simp) (fun j hj=>by rw[Nat.zero_add]at hj;rw[wx hlt];simp[hj])]
     exact this
    |true=>
     have hsame:ce (lst (listed.setIfInBounds i true)) 0 (effs P ops.toList)=ce (lst listed) 0 (effs P ops.toList):=by
      refine wo _ 0 fun j hj=>?_
      rw[Nat.zero_add,wx hlt];obtain⟨oj,hoj,hqj⟩:=hes j hj;have:j≠i:=fun hh=>by subst hh;cases ho.symm.trans hoj;rw[hq]at hqj;cases hqj
      simp[this]
     have hlo:ce (fun k=>bef (befs ops.toList) k i) 0 (effs P ops.toList)≤ce (lst listed) 0 (effs P ops.toList):=xS _ 0 fun j _ hb=>by rw[Nat.zero_add]at hb ⊢;exact before j hb
     have hhi:ce (lst listed) 0 (effs P ops.toList)≤ce (fun k=>!bef (befs ops.toList) i k) 0 (effs P ops.toList):=xS _ 0 fun j _ hb=>by
      rw[Nat.zero_add]at hb ⊢;cases hbb:bef (befs ops.toList) i j with
      |false=>rfl
      |true=>rw[after j hbb]at hb;cases hb
     have hlo0:ce (fun k=>bef (befs ops.toList) k i) 0 (effs P ops.toList)≤ce (fun k=>decide (k<i)) 0 (effs P ops.toList):=xS _ 0 fun j _ hb=>by rw[Nat.zero_add]at hb ⊢;exact x4 hb hCi hRi
     have hhi0:ce (fun k=>decide (k<i)) 0 (effs P ops.toList)≤ce (fun k=>!bef (befs ops.toList) i k) 0 (effs P ops.toList):=xS _ 0 fun j _ hb=>by
      rw[Nat.zero_add]at hb ⊢;cases hbb:bef (befs ops.toList) i j with
      |false=>rfl
      |true=>
       have:=x4 hbb hCi (hCi j hb);simp at this
     have hex:∃h',xj call (yL P nt ops o) tr Hk=some (v,h'):=by
      rcases zbF l hch i _ tr v hj (by simp[hq]) with heq|hall
      ·simp only at heq;have:ce (lst listed) 0 (effs P ops.toList)=ce (fun k=>decide (k<i)) 0 (effs P ops.toList):=by omega
       rw[this]at hH;cases hH.symm.trans hk0s;exact⟨h0',hone0⟩
      ·exact hall _ Hk hlo hhi hH
     obtain⟨h',hh'⟩:=hex;refine⟨h',hh',?_⟩;have:h'=Hk:=by
      rcases zeV (a:={ tmps:=wA φ nt tr,defers:=[] }) hh' Tr' with⟨_,hc⟩|⟨_,_,hc⟩
      ·exact zjr P o.op hq _ _ _ _ _ hc
      ·exact hc
     rw[this,hsame];exact hH
   obtain⟨h',hone,hH'⟩:=hone;have hC':Clo ops (lst (listed.setIfInBounds i true)):=by
    intro j hj o' e ho' he hb;rw[wx hlt]at hj ⊢;rw[Bool.or_eq_true]
    right
    simp only[Bool.or_eq_true,decide_eq_true_eq]at hj;rcases hj with hj|hj
    ·subst hj;exact hR o' e ho' he hb
    ·exact hC j hj o' e ho' he hb
   have next:∀(φ2:Phi) (w2:World),Ext Hk.n.toNat φ φ2→HRel w0 S φ2 h' w2→wfA φ2 h'.n.toNat v→Hk.n.toNat≤h'.n.toNat→wpAnyIn (FR ro) 0 P .any ops Q fuel (listed.setIfInBounds i true) (a.put o.dst (zp φ2 v)) w2:=by
    intro φ2 w2 he H2 hv hle;refine ih _ φ2 _ w2 h' (by simpa using hsz) ?_ hC' (hE.trans he hn) hH' H2 (Nat.le_trans hn hle) ?_ ((put_defers _ _ _).trans hdf)
    ·have:=zjg hlt hli;omega
    ·refine TRel.of_get (TRel.put (T.ext he hle) hv o.dst hdin) fun s=>?_
     classical
     rw[zc0,ur];have hri:(l.map dv)[i]? = some (o.dst.map bn,v):=by
      rw[Lz6,hj];simp only[Option.map_some,dv];rw[←hdd]
     by_cases hd:o.dst.map bn=some s
     ·rw[if_pos hd];rw[hd]at hri;rw[zfS (l.map dv) 0 i v hri (by rw[Nat.zero_add,wx hlt];simp) (fun j d u hij hjd hds=>?_)]
      ·rfl
      ·rw[Nat.zero_add,wx hlt];obtain⟨oj,sj,hoj,hsj,hbe⟩:=hdv j d u _ hjd hds;have hne:¬j=i:=by omega
       simp only[hne,decide_false,Bool.false_or];rcases hord i j o oj ho hoj hij with hb|⟨hap,_⟩
       ·exact after j hb
       ·cases hod:o.dst with
        |none=>rw[hod]at hd;cases hd
        |some so=>
         rw[hod]at hd;have:so=sj:=uz (by rw[hbe];simpa using hd)
         subst this;exact absurd hsj ((Oper.apart_spec hap).2.1 _ hod)
     ·rw[if_neg hd,ur]
      congr 1
      refine kM _ 0 fun j d u hjd hds=>?_
      rw[Nat.zero_add,wx hlt];have hne:¬j=i:=fun hh=>by
       subst hh;rw[hri]at hjd;cases hjd;exact hd hds
      simp[hne]
   unfold wpOpIn;simp only[ho];rcases zeV (a:={ tmps:=wA φ nt tr,defers:=[] }) hone Tr' with⟨hw,hc⟩|⟨hw,hv,hh⟩
   ·rw[if_pos (by rw[hwant];exact hw)]
    exact zev C HR (ar:={ tmps:=wA φ nt tr,defers:=[] }) Tr' hexec hc next
   ·rw[if_neg (by rw[hwant,hw];simp)]
    subst hv hh;exact⟨fun f _=>trivial,next φ w (Ext.refl _ _) HR (fun _ hv=>by cases hv) (LzB _)⟩
end
end Go.CE
end
section
namespace Go.CE
open Go.RowKit
section
variable {α:Type}
theorem uV:∀(n:BN) (t:Tr α),(t.del n).get n=none:=by
 intro n
 induction n with
 |z=>intro t;cases t<;>rfl
 |o n ih=>intro t;cases t with
  |nil=>rfl
  |node l v r=>exact ih l
 |d n ih=>intro t;cases t with
  |nil=>rfl
  |node l v r=>exact ih r
theorem uo:∀(n m:BN) (t:Tr α),m≠n→(t.del n).get m=t.get m:=by
 intro n
 induction n with
 |z=>intro m t h;cases t with
  |nil=>rfl
  |node l v r=>cases m with
   |z=>exact absurd rfl h
   |o m=>rfl
   |d m=>rfl
 |o n ih=>intro m t h;cases t with
  |nil=>rfl
  |node l v r=>cases m with
   |z=>rfl
   |o m=>exact ih m l (fun e=>h (by rw[e]))
   |d m=>rfl
 |d n ih=>intro m t h;cases t with
  |nil=>rfl
  |node l v r=>cases m with
   |z=>rfl
   |o m=>rfl
   |d m=>exact ih m r (fun e=>h (by rw[e]))
end
abbrev nm(n0 j:Nat):BN:=bn (Nat.add n0 j)
theorem yq(n0 j:Nat):(nm n0 j).toNat=n0+j:=zD _
theorem vr{n0 i j:Nat}(h:nm n0 i=nm n0 j):i=j:=by
 have:=congrArg BN.toNat h;rw[yq,yq]at this;omega
theorem zsS{n0:Nat}{b:BN}(h:n0≤b.toNat):b=nm n0 (b.toNat-n0):=by
 apply BN.toNat_inj;rw[yq];omega
theorem zbA{n0:Nat}:∀(l:List Nat) (t:Tr AObj) (j:Nat),j∈l→(delH n0 l t).get (nm n0 j)=none
 | [],_,j,h=>by cases h
 |i::l,t,j,h=>by
  unfold delH;by_cases hj:j∈l
  ·exact zbA l _ j hj
  ·have hji:j=i:=by
    rcases List.mem_cons.1 h with h|h
    ·exact h
    ·exact absurd h hj
   subst hji;have key:∀(l:List Nat) (t:Tr AObj) (b:BN),t.get b=none→(delH n0 l t).get b=none:=by
    intro l
    induction l with
    |nil=>intro t b h;exact h
    |cons i l ih=>
     intro t b h;unfold delH;apply ih;by_cases hb:b=bn (Nat.add n0 i)
     ·subst hb;exact uV _ _
     ·rw[uo _ _ _ hb];exact h
   exact key l _ _ (uV _ _)
theorem vz{n0:Nat}:∀(l:List Nat) (t:Tr AObj) (b:BN),(∀j∈l,b≠nm n0 j)→(delH n0 l t).get b=t.get b
 | [],_,_,_=>rfl
 |i::l,t,b,h=>by
  unfold delH;rw[vz l _ b fun j hj=>h j (by simp[hj]),uo _ _ _ (h i (by simp))]
theorem jv{n0:Nat}{h:Tr AObj}:∀(l:List Nat) (t t':Tr AObj),zdZ n0 h l t=some t'→
  (∀j∈l,t'.get (nm n0 j)=h.get (nm n0 j))∧(∀b,(∀j∈l,b≠nm n0 j)→t'.get b=t.get b)∧∀j∈l,t.get (nm n0 j)=none
 | [],t,t',e=>by cases e;exact⟨fun j hj=>(by cases hj),fun _ _=>rfl,fun j hj=>(by cases hj)⟩
 |i::l,t,t',e=>by
  unfold zdZ at e;split at e
  ·cases e
  ·rename_i hn;split at e
   ·rename_i o ho;obtain⟨g1,g2,g3⟩:=jv l _ t' e;have hni:∀j∈l,nm n0 i≠nm n0 j:=fun j hj hh=>by
     have:=g3 j hj;rw[←hh]at this;rw[show nm n0 i=bn (Nat.add n0 i) from rfl,zw]at this
     cases this
    refine⟨fun j hj=>?_,fun b hb=>?_,fun j hj=>?_⟩
    ·rcases List.mem_cons.1 hj with rfl|hj
     ·rw[g2 _ hni,show nm n0 j=bn (Nat.add n0 j) from rfl,zw,ho]
     ·exact g1 j hj
    ·rw[g2 b fun j hj=>hb j (by simp[hj])]
     exact zo _ _ _ _ (hb i (by simp))
    ·rcases List.mem_cons.1 hj with rfl|hj
     ·exact hn
     ·have:=g3 j hj
      rwa [zo _ _ _ _ (fun hh=>hni j hj hh.symm)]at this
   ·rename_i ho;obtain⟨g1,g2,g3⟩:=jv l _ t' e;refine⟨fun j hj=>?_,fun b hb=>g2 b fun j hj=>hb j (by simp[hj]),fun j hj=>?_⟩
    ·rcases List.mem_cons.1 hj with rfl|hj
     ·by_cases hm:∀k∈l,nm n0 j≠nm n0 k
      ·rw[g2 _ hm];exact hn.trans ho.symm
      ·simp only[Classical.not_forall,ne_eq,Classical.not_not]at hm;obtain⟨k,hk,he⟩:=hm;rw[he];exact g1 k hk
     ·exact g1 j hj
    ·rcases List.mem_cons.1 hj with rfl|hj
     ·exact hn
     ·exact g3 j hj
theorem mixT{n0:Nat}(h t:Tr AObj):∀(l:List Nat),∃t':Tr AObj,(∀j∈l,t'.get (nm n0 j)=h.get (nm n0 j))∧∀b,(∀j∈l,b≠nm n0 j)→t'.get b=t.get b
 | []=>⟨t,fun j hj=>(by cases hj),fun _ _=>rfl⟩
 |i::l=>by
  obtain⟨t1,g1,g2⟩:=mixT h t l;have key:∃t2:Tr AObj,t2.get (nm n0 i)=h.get (nm n0 i)∧∀b,b≠nm n0 i→t2.get b=t1.get b:=by
   cases ho:h.get (nm n0 i) with
   |none=>exact⟨t1.del (nm n0 i),uV _ _,fun b hb=>uo _ _ _ hb⟩
   |some o=>exact⟨t1.set (nm n0 i) o,zw _ _ _,fun b hb=>zo _ _ _ _ hb⟩
  obtain⟨t2,k1,k2⟩:=key;refine⟨t2,fun j hj=>?_,fun b hb=>?_⟩
  ·by_cases hji:nm n0 j=nm n0 i
   ·rw[hji];exact k1
   ·rw[k2 _ hji];rcases List.mem_cons.1 hj with rfl|hj
    ·exact absurd rfl hji
    ·exact g1 j hj
  ·rw[k2 b (hb i (by simp)),g2 b fun j hj=>hb j (by simp[hj])]
def Sbh(e h:AHeap):Prop:=∀b o,e.t.get b=some o→h.t.get b=some o
section
variable {w0:World} {S:Nat→Prop} {φ φ2:Phi} {h e e2 h2:AHeap} {w w2:World}
def Desc(φ:Phi)(e:AHeap)(k:Nat):Prop:=∃b o,e.t.get b=some o∧live o∧(φ b).blk=k
theorem HRel.sub(H:HRel w0 S φ h w)(hs:Sbh e h)(hn:e.n.toNat=h.n.toNat):HRel w (Desc φ e) φ e w:=
 ⟨fun b o hb => by rw [hn]; exact H.keys b o (hs b o hb), fun b o hb => H.okb b o (hs b o hb), fun b o hb => by rw [hn]; exact H.obj b o (hs b o hb),
  fun b b' o o' hb hb' hl hl' he=>H.inj b b' o o' (hs b o hb) (hs b' o' hb') hl hl' he,fun b o hb hl=>.inl ⟨b,o,hb,hl,rfl⟩,rfl,rfl,rfl,LzB _,LzB _,fun _ _ _=>rfl,H.glob,fun b o hb hl=>H.flat b o (hs b o hb) hl,fun b o hb hl=>H.ng b o (hs b o hb) hl⟩
theorem HRel.join(H:HRel w0 S φ h w)(hs:Sbh e h)(_hn:e.n.toNat=h.n.toNat)(H2:HRel w (Desc φ e) φ2 e2 w2)(he:Ext h.n.toNat φ φ2)(hle:h.n.toNat≤e2.n.toNat)
  (hn2:h2.n.toNat=e2.n.toNat) (hg:∀b o,h2.t.get b=some o→e2.t.get b=some o∨(h.t.get b=some o∧e.t.get b=none)):HRel w0 S φ2 h2 w2:=by
 have hold:∀b o,h.t.get b=some o→φ2 b=φ b:=fun b o hb=>he b (H.keys b o hb)
 have hdesc:∀k,Desc φ e k→S k∨w0.heap.size≤k:=by
  rintro k ⟨b,o,hb,hl,rfl⟩
  exact H.own b o (hs b o hb) hl
 have hrest:∀b o,h.t.get b=some o→e.t.get b=none→live o→¬Desc φ e (φ b).blk:=by
  rintro b o hb hn hl ⟨c,o',hc,hl',hcc⟩
  have:=H.inj c b o' o (hs c o' hc) hb hl' hl hcc;subst this;rw[hn]at hc;cases hc
 have hlt:∀b o,h.t.get b=some o→live o→(φ b).blk<w.heap.size:=fun b o hb hl=>(H.obj b o hb).there hl
 refine⟨fun b o hb=>?_,fun b o hb=>?_,fun b o hb=>?_,fun b b' o o' hb hb' hl hl' hh=>?_,fun b o hb hl=>?_,H2.os.trans H.os,H2.tape.trans H.tape,H2.output.trans H.output,Nat.le_trans H.size H2.size,Nat.le_trans H.drawn H2.drawn,fun k hk hS=>?_,H2.glob,fun b o hb hl=>?_,fun b o hb hl=>?_⟩
 ·rw[hn2];rcases hg b o hb with hb|⟨hb,_⟩
  ·exact H2.keys b o hb
  ·exact Lz9 (H.keys b o hb) hle
 ·rcases hg b o hb with hb|⟨hb,_⟩
  ·exact H2.okb b o hb
  ·rw[hold b o hb];exact H.okb b o hb
 ·rw[hn2];rcases hg b o hb with hb|⟨hb,hnone⟩
  ·exact H2.obj b o hb
  ·exact((H.obj b o hb).world fun hl=>H2.kept _ (hlt b o hb hl) (hrest b o hb hnone hl)).ext (H.okk b o hb) he hle
 ·have hcross:∀b b' o o',e2.t.get b=some o→h.t.get b'=some o'→e.t.get b'=none→live o→live o'→(φ2 b).blk=(φ2 b').blk→False:=by
   intro b b' o o' hb hb' hn hl hl' hh;rw[hold b' o' hb']at hh;rcases H2.own b o hb hl with h1|h1
   ·rw[hh]at h1;exact hrest b' o' hb' hn hl' h1
   ·have:=hlt b' o' hb' hl';omega
  rcases hg b o hb with hb|⟨hb,hnb⟩<;>rcases hg b' o' hb' with hb'|⟨hb',hnb'⟩
  ·exact H2.inj b b' o o' hb hb' hl hl' hh
  ·exact(hcross b b' o o' hb hb' hnb' hl hl' hh).elim
  ·exact(hcross b' b o' o hb' hb hnb hl' hl hh.symm).elim
  ·rw[hold b o hb,hold b' o' hb']at hh;exact H.inj b b' o o' hb hb' hl hl' hh
 ·rcases hg b o hb with hb|⟨hb,_⟩
  ·rcases H2.own b o hb hl with h1|h1
   ·exact hdesc _ h1
   ·exact .inr (Nat.le_trans H.size h1)
  ·rw[hold b o hb];exact H.own b o hb hl
 ·rw[H2.kept k (Lz9 hk H.size) (fun hd=>by
   rcases hdesc k hd with h1|h1
   ·exact hS h1
   ·omega)]
  exact H.kept k hk hS
 ·rcases hg b o hb with hb|⟨hb,_⟩
  ·exact H2.flat b o hb hl
  ·rw[hold b o hb];exact H.flat b o hb hl
 ·rcases hg b o hb with hb|⟨hb,_⟩
  ·exact H2.ng b o hb hl
  ·rw[hold b o hb];exact H.ng b o hb hl
theorem HRel.of_get(H:HRel w0 S φ h w)(hg:∀b,e.t.get b=h.t.get b)(hn:e.n.toNat=h.n.toNat):HRel w0 S φ e w:=
 ⟨fun b o hb => by rw [hn]; exact H.keys b o (by rw [← hg]; exact hb), fun b o hb => H.okb b o (by rw [← hg]; exact hb), fun b o hb => by rw [hn]; exact H.obj b o (by rw [← hg]; exact hb),
  fun b b' o o' hb hb'=>H.inj b b' o o' (by rw[←hg];exact hb) (by rw[←hg];exact hb'),fun b o hb=>H.own b o (by rw[←hg];exact hb),H.os,H.tape,H.output,H.size,H.drawn,H.kept,H.glob,fun b o hb hl=>H.flat b o (by rw[←hg];exact hb) hl,fun b o hb hl=>H.ng b o (by rw[←hg];exact hb) hl⟩
noncomputable def zcw(φ:Phi)(n0 N:Nat):Phi:=fun b=>if n0≤b.toNat∧b.toNat<n0+N then⟨0,0,0,false,none⟩ else φ b
theorem zcv(φ:Phi)(n0 N:Nat):Ext n0 φ (zcw φ n0 N):=fun b hb=>by
 unfold zcw;rw[if_neg (by omega)]
theorem zkO(φ:Phi)(n0 N j:Nat)(hj:j<N):(zcw φ n0 N (nm n0 j)).ok=false:=by
 unfold zcw;rw[if_pos (by rw[yq];omega)]
theorem HRel.keep(H:HRel w0 S φ h w)(N:Nat):HRel w0 S (zcw φ h.n.toNat N) ⟨bn (Nat.add h.n.toNat N),h.t⟩ w:=by
 have he:=zcv φ h.n.toNat N;have hn:(bn (Nat.add h.n.toNat N)).toNat=h.n.toNat+N:=zD _;refine⟨fun b o hb=>?_,fun b o hb=>?_,fun b o hb=>?_,fun b b' o o' hb hb' hl hl' hh=>?_,fun b o hb hl=>?_,H.os,H.tape,H.output,H.size,H.drawn,H.kept,H.glob,fun b o hb hl=>?_,fun b o hb hl=>?_⟩
 ·show b.toNat<(bn (Nat.add h.n.toNat N)).toNat;rw[hn];have:=H.keys b o hb;omega
 ·rw[he b (H.keys b o hb)];exact H.okb b o hb
 ·show ORel _ (bn (Nat.add h.n.toNat N)).toNat w b o;rw[hn];exact(H.obj b o hb).ext (H.okk b o hb) he (by omega)
 ·rw[he b (H.keys b o hb),he b' (H.keys b' o' hb')]at hh;exact H.inj b b' o o' hb hb' hl hl' hh
 ·rw[he b (H.keys b o hb)];exact H.own b o hb hl
 ·rw[he b (H.keys b o hb)];exact H.flat b o hb hl
 ·rw[he b (H.keys b o hb)];exact H.ng b o hb hl
def OWf(φ:Phi)(n:Nat):AObj→Prop
 | .cells cs _=>∀c∈cs,wfC φ n c
 | .ro _ f=>∀i c,f i=some c→wfC φ n c
 | .tcells cs _ _=>∀c∈cs,wfC φ n c
 | .map es=>∀p∈es,wfS φ n p.1∧wfS φ n p.2
 | .loop _ _ _ _ tmps _ _ _ d=>(∀i v,tmps.get i=some v→wfA φ n v)∧okB φ n d
 |_=>True
theorem ORel.wf{n:Nat}{b:BN}{o:AObj}(h:ORel φ n w b o):OWf φ n o:=by
 cases o with
 |cells cs st=>obtain⟨_,_,_,_,_,h4⟩:=h;exact h4
 |ro x f=>obtain⟨_,_,_,_,_,h4⟩:=h;exact fun i c hc=>(h4 i c hc).2
 |tcells cs ty var=>obtain⟨_,_,_,_,_,_,h4⟩:=h;exact h4
 |map es=>obtain⟨_,_,_,_,h3,_⟩:=h;exact h3
 |loop st pend fn nt tmps ps assign body d=>obtain⟨_,_,_,h2,h3⟩:=h;exact⟨h2.wf,h3⟩
 |_=>trivial
theorem ORel.recast{φ1 φ2:Phi}{n n1 n2:Nat}{b b2:BN}{o:AObj}(h:ORel φ1 n1 w b o)(hw:OWf φ n o)(hb:φ2 b2=φ1 b)(e1:ExtW n φ φ1)(e2:ExtW n φ φ2)(hn2:n≤n2):ORel φ2 n2 w b2 o:=by
 have cc:∀c,wfC φ n c→zi φ2 c=zi φ1 c:=fun c hc=>(xV e2 hc).trans (xV e1 hc).symm
 have cs':∀c,wfS φ n c→zB φ2 c=zB φ1 c:=fun c hc=>(wQ e2 hc).trans (wQ e1 hc).symm
 have ca:∀c,wfA φ n c→zp φ2 c=zp φ1 c:=fun c hc=>(qG e2 hc).trans (qG e1 hc).symm
 cases o with
 |cells cs st=>
  obtain⟨arr,e,h1,h2,h3,h4⟩:=h;refine⟨arr,e,by rw[hb];exact h1,fun i c hc=>?_,by rw[hb];exact h3,fun c hc=>wk e2 hn2 (hw c hc)⟩
  rw[hb,cc c (hw c (Lz3 hc))];exact h2 i c hc
 |ro x f=>
  obtain⟨h0,arr,e,fr,h1,h2⟩:=h;refine⟨fun y hy=>by rw[hb];exact h0 y hy,arr,e,fr,by rw[hb];exact h1,fun i c hc=>?_⟩
  obtain⟨k1,_⟩:=h2 i c hc;exact⟨by rw[hb,cc c (hw i c hc)];exact k1,wk e2 hn2 (hw i c hc)⟩
 |tcells cs ty var=>
  obtain⟨arr,h1,h2,h3,h4,h5,h6⟩:=h;refine⟨arr,by rw[hb];exact h1,fun i c hc=>?_,by rw[hb];exact h3,by rw[hb];exact h4,h5,fun c hc=>wk e2 hn2 (hw c hc)⟩
  rw[cc c (hw c (Lz3 hc))];exact h2 i c hc
 |dead=>trivial
 |void=>trivial
 |map es=>
  obtain⟨ents,clock,h1,h2,h3,h4⟩:=h;refine⟨ents,clock,by rw[hb];exact h1,?_,fun p hp=>⟨uf e2 hn2 (hw p hp).1,uf e2 hn2 (hw p hp).2⟩,h4⟩
  rw[h2];exact List.map_congr_left fun p hp=>by rw[cs' _ (hw p hp).1,cs' _ (hw p hp).2]
 |loop st pend fn nt tmps ps assign body d=>
  obtain⟨arr,f,h1,h2,h3⟩:=h;obtain⟨w1,w2'⟩:=hw;refine⟨arr,f,by rw[hb,(e2 d w2').trans (e1 d w2').symm];exact h1,⟨h2.size,fun i hi=>?_,h2.out,fun i v hv=>zgG e2 hn2 (w1 i v hv)⟩,okB.extW e2 hn2 w2'⟩
  rw[h2.get i hi];cases hg:tmps.get (bn i) with
  |none=>rfl
  |some v=>simp only[Option.getD_some];rw[ca v (w1 _ _ hg)]
 |defer=>unfold ORel at *;rw[hb];exact h
theorem HRel.rename(H:HRel w0 S φ h w){o:AObj}{φ1:Phi}(H1:HRel w0 S φ1 (h.new o) w2)(he:Ext h.n.toNat φ φ1)(hw:OWf φ h.n.toNat o){b:BN}(hb:b.toNat<h.n.toNat)(hbad:(φ b).ok=false)(hnone:h.t.get b=none):
  HRel w0 S (upd φ b (φ1 h.n)) (h.put b o) w2∧ExtW h.n.toNat φ (upd φ b (φ1 h.n)):=by
 have hnb:∀c o',h.t.get c=some o'→c≠b:=fun c o' hc hh=>by rw[hh,hnone]at hc;cases hc
 have hnn:∀c o',h.t.get c=some o'→c≠h.n:=fun c o' hc hh=>by have:=H.keys c o' hc;rw[hh]at this;omega
 have hupd:∀c,c≠b→upd φ b (φ1 h.n) c=φ c:=fun c hc=>by simp[upd,hc]
 have hget:∀c x,(h.put b o).t.get c=some x→(c=b∧x=o)∨(c≠b∧h.t.get c=some x):=by
  intro c x hc;simp only[AHeap.put,uU]at hc;split at hc
  ·rename_i e;exact .inl ⟨e,(Option.some.inj hc).symm⟩
  ·rename_i e;exact .inr ⟨e,hc⟩
 have hold:∀c x,h.t.get c=some x→(h.new o).t.get c=some x:=fun c x hc=>by
  simp only[AHeap.new];rw[zo _ _ _ _ (hnn c x hc)];exact hc
 have hnew:(h.new o).t.get h.n=some o:=by simp only[AHeap.new];exact zw _ _ _
 have e2:ExtW h.n.toNat φ (upd φ b (φ1 h.n)):=fun c hc=>hupd c fun hh=>by have:=hc.2;rw[hh,hbad]at this;cases this
 refine⟨⟨fun c x hc=>?_,fun c x hc=>?_,fun c x hc=>?_,fun c c' x x' hc hc' hl hl' hh=>?_,fun c x hc hl=>?_,H1.os,H1.tape,H1.output,H1.size,H1.drawn,H1.kept,H1.glob,fun c x hc hl=>?_,fun c x hc hl=>?_⟩,e2⟩
 ·rcases hget c x hc with⟨rfl,_⟩|⟨_,hc'⟩
  ·exact hb
  ·exact H.keys c x hc'
 ·rcases hget c x hc with⟨rfl,_⟩|⟨hne,hc'⟩
  ·rw[zn];exact H1.okb _ _ hnew
  ·rw[hupd c hne];exact H.okb c x hc'
 ·rcases hget c x hc with⟨rfl,rfl⟩|⟨hne,hc'⟩
  ·exact(H1.obj _ _ hnew).recast hw (zn _ _ _) he.w e2 (LzB _)
  ·exact(H1.obj _ _ (hold c x hc')).recast (H.obj c x hc').wf ((hupd c hne).trans (he c (H.keys c x hc')).symm) he.w e2 (LzB _)
 ·rcases hget c x hc with⟨rfl,rfl⟩|⟨hne,hc1⟩<;>rcases hget c' x' hc' with⟨rfl,rfl⟩|⟨hne',hc2⟩
  ·rfl
  ·rw[zn,hupd c' hne',←he c' (H.keys c' x' hc2)]at hh;exact absurd (H1.inj _ _ _ _ hnew (hold c' x' hc2) hl hl' hh).symm (hnn c' x' hc2)
  ·rw[zn,hupd c hne,←he c (H.keys c x hc1)]at hh;exact absurd (H1.inj _ _ _ _ (hold c x hc1) hnew hl hl' hh) (hnn c x hc1)
  ·rw[hupd c hne,hupd c' hne']at hh;exact H.inj c c' x x' hc1 hc2 hl hl' hh
 ·rcases hget c x hc with⟨rfl,rfl⟩|⟨hne,hc'⟩
  ·rw[zn];exact H1.own _ _ hnew hl
  ·rw[hupd c hne];exact H.own c x hc' hl
 ·rcases hget c x hc with⟨rfl,rfl⟩|⟨hne,hc'⟩
  ·rw[zn];exact H1.flat _ _ hnew hl
  ·rw[hupd c hne];exact H.flat c x hc' hl
 ·rcases hget c x hc with⟨rfl,rfl⟩|⟨hne,hc'⟩
  ·rw[zn];exact H1.ng _ _ hnew hl
  ·rw[hupd c hne];exact H.ng c x hc' hl
end
end Go.CE
end
section
namespace Go.CE
open Go.RowKit
def yR(f:OpFn):Prop:=∀call t h h' v h2,f call t h=some (v,h2)→Sbh h h'→f call t h'=some (v,h')
theorem zF:yR (zY none):=fun _ _ _ _ _ _ e=>by cases e
theorem zA{f:OpFn}(hf:yR f):yR (zY (some f)):=hf
theorem zkz{α:Type}{a:Option α}{g:α→Option OpFn}(hg:∀x,yR (zY (g x))):yR (zY (a.bind g)):=by
 cases a with
 |none=>exact zF
 |some x=>exact hg x
theorem zg{α:Type}{a:Option α}{g:α→Option OpFn}(hg:∀x,yR (zY (g x))):yR (zY (a >>= g)):=zkz hg
theorem zhf{α:Type}{a:Option α}{g:α→OpFn}(hg:∀x,yR (g x)):yR (zY (a.map g)):=by
 cases a with
 |none=>exact zF
 |some x=>exact hg x
theorem xm{b:Bool}{x y:Option OpFn}(hx:yR (zY x))(hy:yR (zY y)):yR (zY (bif b then x else y)):=by
 cases b
 ·exact hy
 ·exact hx
section
variable {h h' h2:AHeap} {v:AVal}
theorem zU{c:Option CVal}(e:retC h c=some (v,h2)):retC h' c=some (v,h'):=by cases c<;>cases e;rfl
theorem zV{c:Option (List CVal)}(e:retA h c=some (v,h2)):retA h' c=some (v,h'):=by cases c<;>cases e;rfl
theorem zX{n:Option Nat}{cs:List CVal}{off:Nat}(e:part n cs off h=some (v,h2)):part n cs off h'=some (v,h'):=by
 cases n
 ·exact zU e
 ·exact zV e
theorem yM{b:Bool}{x y x' y':Res}(hx:x=some (v,h2)→x'=some (v,h'))(hy:y=some (v,h2)→y'=some (v,h'))(e:(bif b then x else y)=some (v,h2)):(bif b then x' else y')=some (v,h'):=by
 cases b
 ·exact hy e
 ·exact hx e
theorem zeb{st:Nat}{lo hi mx:Option Opd}{t:Tr AVal}{b:BN}{off len cap:Nat}(e:xd st lo hi mx t h b off len cap=some (v,h2)):xd st lo hi mx t h' b off len cap=some (v,h'):=by
 unfold xd at e ⊢
 (repeat' split at e)<;>first|(cases e;done)|((try simp only[*]);exact yM (fun e=>by cases e;rfl) (fun e=>by cases e) e)
theorem zjt{st:Nat}{lo hi mx:Option Opd}{t:Tr AVal}{b:BN}{off len cap:Nat}(e:y9 st lo hi mx t h b off len cap=some (v,h2)):y9 st lo hi mx t h' b off len cap=some (v,h'):=by
 unfold y9 at e ⊢
 (repeat' split at e)<;>first|(cases e;done)|(cases e;simp only[*];done)|((try simp only[*]);exact yM (fun e=>by cases e;rfl) (fun e=>by cases e) e)
theorem zih{lo hi mx:Option Opd}{t:Tr AVal}(e:xu lo hi mx t h=some (v,h2)):xu lo hi mx t h'=some (v,h'):=by
 unfold xu at e ⊢;split at e
 ·cases e;simp only[*]
 ·cases e
end
theorem zfQ(x):yR (opMv x):=by
 intro call t h h' v h2 e _;unfold opMv at e ⊢
 (repeat' split at e) <;> first
  |(cases e;done)
  |(cases e;simp only[*];done)
  |((try simp only[*]);first|exact zU e|exact zV e|exact zX e|exact yM (fun e=>by first|(cases e;rfl)|exact zU e|exact zV e|exact zX e) (fun e=>by cases e) e)
theorem zkq(x y z):yR (uH x y z):=by
 intro call t h h' v h2 e _;unfold uH at e ⊢
 (repeat' split at e) <;> first
  |(cases e;done)
  |(cases e;simp only[*];done)
  |((try simp only[*]);first|exact zU e|exact zV e|exact zX e|exact yM (fun e=>by first|(cases e;rfl)|exact zU e|exact zV e|exact zX e) (fun e=>by cases e) e)
theorem zcp(zs ps):yR (w8 zs ps):=by
 intro call t h h' v h2 e _;exact zV e
theorem ziB(x):yR (wX x):=by
 intro call t h h' v h2 e _;unfold wX at e ⊢
 (repeat' split at e) <;> first
  |(cases e;done)
  |(cases e;simp only[*];done)
  |((try simp only[*]);first|exact zU e|exact zV e|exact zX e|exact yM (fun e=>by first|(cases e;rfl)|exact zU e|exact zV e|exact zX e) (fun e=>by cases e) e)
theorem zm4(g x y):yR (zao g x y):=by
 intro call t h h' v h2 e _;unfold zao at e ⊢
 (repeat' split at e) <;> first
  |(cases e;done)
  |(cases e;simp only[*];done)
  |((try simp only[*]);first|exact zU e|exact zV e|exact zX e|exact yM (fun e=>by first|(cases e;rfl)|exact zU e|exact zV e|exact zX e) (fun e=>by cases e) e)
theorem zcn(g x y):yR (wg g x y):=by
 intro call t h h' v h2 e _;unfold wg at e ⊢
 (repeat' split at e) <;> first
  |(cases e;done)
  |(cases e;simp only[*];done)
  |((try simp only[*]);first|exact zU e|exact zV e|exact zX e|exact yM (fun e=>by first|(cases e;rfl)|exact zU e|exact zV e|exact zX e) (fun e=>by cases e) e)
theorem zmZ(g x y):yR (za5 g x y):=by
 intro call t h h' v h2 e _;unfold za5 at e ⊢
 (repeat' split at e) <;> first
  |(cases e;done)
  |(cases e;simp only[*];done)
  |((try simp only[*]);first|exact zU e|exact zV e|exact zX e|exact yM (fun e=>by first|(cases e;rfl)|exact zU e|exact zV e|exact zX e) (fun e=>by cases e) e)
theorem zkx(g n x y):yR (opEq g n x y):=by
 intro call t h h' v h2 e _;unfold opEq at e ⊢
 (repeat' split at e) <;> first
  |(cases e;done)
  |(cases e;simp only[*];done)
  |((try simp only[*]);first|exact zU e|exact zV e|exact zX e|exact yM (fun e=>by first|(cases e;rfl)|exact zU e|exact zV e|exact zX e) (fun e=>by cases e) e)
theorem zeB(n x y):yR (vS n x y):=by
 intro call t h h' v h2 e _;unfold vS at e ⊢
 (repeat' split at e) <;> first
  |(cases e;done)
  |(cases e;simp only[*];done)
  |((try simp only[*]);first|exact zU e|exact zV e|exact zX e|exact yM (fun e=>by first|(cases e;rfl)|exact zU e|exact zV e|exact zX e) (fun e=>by cases e) e)
theorem zeC(n x y):yR (uI n x y):=by
 intro call t h h' v h2 e _;unfold uI at e ⊢
 (repeat' split at e) <;> first
  |(cases e;done)
  |(cases e;simp only[*];done)
  |((try simp only[*]);first|exact zU e|exact zV e|exact zX e|exact yM (fun e=>by first|(cases e;rfl)|exact zU e|exact zV e|exact zX e) (fun e=>by cases e) e)
theorem zm1(x):yR (za6 x):=by
 intro call t h h' v h2 e _;unfold za6 at e ⊢
 (repeat' split at e) <;> first
  |(cases e;done)
  |(cases e;simp only[*];done)
  |((try simp only[*]);first|exact zU e|exact zV e|exact zX e|exact yM (fun e=>by first|(cases e;rfl)|exact zU e|exact zV e|exact zX e) (fun e=>by cases e) e)
theorem zm2(x):yR (za7 x):=by
 intro call t h h' v h2 e _;unfold za7 at e ⊢
 (repeat' split at e) <;> first
  |(cases e;done)
  |(cases e;simp only[*];done)
  |((try simp only[*]);first|exact zU e|exact zV e|exact zX e|exact yM (fun e=>by first|(cases e;rfl)|exact zU e|exact zV e|exact zX e) (fun e=>by cases e) e)
theorem zky(k x):yR (uO k x):=by
 intro call t h h' v h2 e _;unfold uO at e ⊢
 (repeat' split at e) <;> first
  |(cases e;done)
  |(cases e;simp only[*];done)
  |((try simp only[*]);first|exact zU e|exact zV e|exact zX e|exact yM (fun e=>by first|(cases e;rfl)|exact zU e|exact zV e|exact zX e) (fun e=>by cases e) e)
theorem zkr(f x):yR (uJ f x):=by
 intro call t h h' v h2 e _;unfold uJ at e ⊢
 (repeat' split at e) <;> first
  |(cases e;done)
  |(cases e;simp only[*];done)
  |((try simp only[*]);first|exact zU e|exact zV e|exact zX e|exact yM (fun e=>by first|(cases e;rfl)|exact zU e|exact zV e|exact zX e) (fun e=>by cases e) e)
theorem zfO(x lo hi):yR (xy x lo hi):=by
 intro call t h h' v h2 e _;unfold xy at e ⊢
 (repeat' split at e) <;> first
  |(cases e;done)
  |(cases e;simp only[*];done)
  |((try simp only[*]);first|exact zU e|exact zV e|exact zX e|exact yM (fun e=>by first|(cases e;rfl)|exact zU e|exact zV e|exact zX e) (fun e=>by cases e) e)
theorem zkw(x o):yR (uN x o):=by
 intro call t h h' v h2 e _;unfold uN at e ⊢
 (repeat' split at e) <;> first
  |(cases e;done)
  |(cases e;simp only[*];done)
  |((try simp only[*]);first|exact zU e|exact zV e|exact zX e|exact yM (fun e=>by first|(cases e;rfl)|exact zU e|exact zV e|exact zX e) (fun e=>by cases e) e)
theorem ziF(x o n):yR (w7 x o n):=by
 intro call t h h' v h2 e _;unfold w7 at e ⊢
 (repeat' split at e) <;> first
  |(cases e;done)
  |(cases e;simp only[*];done)
  |((try simp only[*]);first|exact zU e|exact zV e|exact zX e|exact yM (fun e=>by first|(cases e;rfl)|exact zU e|exact zV e|exact zX e) (fun e=>by cases e) e)
theorem zm3(st x i):yR (zba st x i):=by
 intro call t h h' v h2 e _;unfold zba at e ⊢
 (repeat' split at e) <;> first
  |(cases e;done)
  |(cases e;simp only[*];done)
  |((try simp only[*]);first|exact zU e|exact zV e|exact zX e|exact yM (fun e=>by first|(cases e;rfl)|exact zU e|exact zV e|exact zX e) (fun e=>by cases e) e)
theorem ziD(l st x i):yR (wZ l st x i):=by
 intro call t h h' v h2 e _;unfold wZ at e ⊢
 (repeat' split at e) <;> first
  |(cases e;done)
  |(cases e;simp only[*];done)
  |((try simp only[*]);first|exact zU e|exact zV e|exact zX e|exact yM (fun e=>by first|(cases e;rfl)|exact zU e|exact zV e|exact zX e) (fun e=>by cases e) e)
theorem ziE(l st n x i):yR (w6 l st n x i):=by
 intro call t h h' v h2 e _;unfold w6 at e ⊢
 (repeat' split at e) <;> first
  |(cases e;done)
  |(cases e;simp only[*];done)
  |((try simp only[*]);first|exact zU e|exact zV e|exact zX e|exact yM (fun e=>by first|(cases e;rfl)|exact zU e|exact zV e|exact zX e) (fun e=>by cases e) e)
theorem ziC(x i):yR (wY x i):=by
 intro call t h h' v h2 e _;unfold wY at e ⊢
 (repeat' split at e) <;> first
  |(cases e;done)
  |(cases e;simp only[*];done)
  |((try simp only[*]);first|exact zU e|exact zV e|exact zX e|exact yM (fun e=>by first|(cases e;rfl)|exact zU e|exact zV e|exact zX e) (fun e=>by cases e) e)
theorem zeD(x i):yR (xl x i):=by
 intro call t h h' v h2 e _;unfold xl at e ⊢
 (repeat' split at e) <;> first
  |(cases e;done)
  |(cases e;simp only[*];done)
  |((try simp only[*]);first|exact zU e|exact zV e|exact zX e|exact yM (fun e=>by first|(cases e;rfl)|exact zU e|exact zV e|exact zX e) (fun e=>by cases e) e)
theorem zkt(x):yR (uL x):=by
 intro call t h h' v h2 e _;unfold uL at e ⊢
 (repeat' split at e) <;> first
  |(cases e;done)
  |(cases e;simp only[*];done)
  |((try simp only[*]);first|exact zU e|exact zV e|exact zX e|exact yM (fun e=>by first|(cases e;rfl)|exact zU e|exact zV e|exact zX e) (fun e=>by cases e) e)
theorem zkv(x):yR (uM x):=by
 intro call t h h' v h2 e _;unfold uM at e ⊢
 (repeat' split at e) <;> first
  |(cases e;done)
  |(cases e;simp only[*];done)
  |((try simp only[*]);first|exact zU e|exact zV e|exact zX e|exact yM (fun e=>by first|(cases e;rfl)|exact zU e|exact zV e|exact zX e) (fun e=>by cases e) e)
theorem zbf(b x xs):yR (y0 b x xs):=by
 intro call t h h' v h2 e _;unfold y0 at e ⊢
 (repeat' split at e) <;> first
  |(cases e;done)
  |(cases e;simp only[*];done)
  |((try simp only[*]);first|exact zU e|exact zV e|exact zX e|exact yM (fun e=>by first|(cases e;rfl)|exact zU e|exact zV e|exact zX e) (fun e=>by cases e) e)
theorem ziA(st x lo hi mx):yR (wV st x lo hi mx):=by
 intro call t h h' v h2 e _;unfold wV at e ⊢;split at e
 ·(try simp only[*]);exact zih e
 ·(try simp only[*]);exact yM zeb zjt e
 ·cases e
theorem zco(n x y):yR (wW n x y):=by
 intro call t h h' v h2 e _;unfold wW at e ⊢
 (repeat' split at e)<;>first|(cases e;done)|(cases e;(try simp only[*]);done)|(cases e;rfl)
theorem zfP(l st x lo hi mx):yR (wH l st x lo hi mx):=by
 intro call t h h' v h2 e _;unfold wH at e ⊢;split at e
 ·(try simp only[*]);exact zeb e
 ·cases e
theorem zm0(x):yR (zdk x):=by
 intro call t h h' v h2 e hs;unfold zdk at e ⊢;split at e
 ·cases e;rfl
 ·rename_i b o hx;cases hb:h.t.get b with
  |none=>rw[hb]at e;cases e
  |some ob=>
   rw[hb]at e;rw[hs b ob hb];cases ob with
   |tcells cs ty var=>exact yM (fun e=>by cases e;rfl) (fun e=>by cases e) e
   |_=>cases e
 ·cases e
theorem zmY(u n x):yR (zdj u n x):=by
 intro call t h h' v h2 e hs;unfold zdj at e ⊢;split at e
 ·cases e;rfl
 ·rename_i b o hx;refine yM (fun e=>?_) (fun e=>by cases e) e
  cases hb:h.t.get b with
  |none=>rw[hb]at e;cases e
  |some ob=>
   rw[hb]at e;rw[hs b ob hb];cases ob with
   |tcells cs ty var=>exact yM (fun e=>by cases e;rfl) (fun e=>by cases e) e
   |_=>cases e
 ·cases e
theorem zne{n:Option Nat}{h h' h2:AHeap}{off:Nat}{o:AObj}{v:AVal}(e:loadAt n h off (some o)=some (v,h2)):loadAt n h' off (some o)=some (v,h'):=by
 cases o with
 |cells cs st=>exact zX (e:part n cs off h=some (v,h2))
 |tcells cs ty var=>exact zX (e:part n cs off h=some (v,h2))
 |ro x f=>
  have e:zeo n f off h=some (v,h2):=e;show zeo n f off h'=some (v,h');unfold zeo at e ⊢;cases n with
  |none=>exact zU e
  |some n=>exact zV e
 |_=>cases e
theorem zgV{h h' h2:AHeap}{c:Option (List CVal)}{v:AVal}(e:retS h c=some (v,h2)):retS h' c=some (v,h'):=by
 unfold retS at e ⊢
 (repeat' split at e)<;>first|(cases e;done)|(cases e;rfl)
theorem zm6(x):yR (kH x):=by
 intro call t h h' v h2 e hs;unfold kH at e ⊢;split at e
 ·cases e;rfl
 ·rename_i b off len cap ex hx;cases hb:h.t.get b with
  |none=>rw[hb]at e;cases e
  |some o=>
   rw[hb]at e;rw[hs b o hb];cases o with
   |cells cs st=>exact zgV e
   |ro x f=>exact zgV e
   |tcells cs ty var=>exact zgV e
   |void=>exact zgV e
   |_=>cases e
 ·cases e
theorem zks(n x):yR (uK n x):=by
 intro call t h h' v h2 e hs;unfold uK at e ⊢;split at e
 ·rename_i b off hx
  try simp only[hx]
  cases hb:h.t.get b with
  |none=>rw[hb]at e;cases e
  |some o=>rw[hb]at e;rw[hs b o hb];exact zne e
 ·exact yM zU (fun e=>by cases e) e
 ·cases e
theorem zpi{h h':AHeap}(hs:Sbh h h'){m:AVal}{es:List (SVal×SVal)}(e:mapOf h m=some es):mapOf h' m=some es:=by
 unfold mapOf at e ⊢;split at e
 ·exact e
 ·rename_i b;split at e
  ·rename_i es' hb;rw[hs b _ hb];exact e
  ·cases e
 ·cases e
theorem zfR(q z ok m k):yR (wl q z ok m k):=by
 intro call t h h' v h2 e hs;unfold wl at e ⊢;split at e
 ·rename_i es k' hm hk;rw[zpi hs hm,hk];simp only;refine yM (fun e=>by cases e) (fun e=>?_) e
  split at e
  ·rename_i r hr;cases e;simp only
  ·cases e
 ·cases e
theorem zku(x):yR (jE x):=by
 intro call t h h' v h2 e hs;unfold jE at e ⊢;split at e
 ·cases e;simp only[*]
 ·rename_i b hx
  try rw[hx]
  try simp only
  split at e
  ·rename_i es hb;rw[hs b _ hb];cases e;rfl
  ·cases e
 ·cases e
theorem zm5(P:Program)(o:Op)(hq:yx P o=true):yR (cOp P o):=by
 cases o with
 |move x=>exact zhf zfQ
 |assign x=>exact zhf zfQ
 |pick c x y=>exact zg fun _=>zg fun _=>zg fun _=>zA (zkq _ _ _)
 |build t parts=>
  unfold cOp;simp only;split
  ·exact xm (zg fun _=>zA (zcp _ _)) zF
  ·split
   ·exact zg fun _=>zA (zcp _ _)
   ·exact zF
  ·exact zF
 |load t x=>exact zg fun _=>zg fun _=>zA (zks _ _)
 |nilCheck x=>exact zg fun _=>zA (ziB _)
 |binOp op t x y u=>
  unfold cOp;simp only;split
  ·split
   ·exact zg fun _=>zg fun _=>zA (zcn _ _ _)
   ·exact zg fun _=>zg fun _=>zA (zcn _ _ _)
   ·exact zg fun _=>zg fun _=>zA (zm4 _ _ _)
  ·exact zg fun _=>zg fun _=>zA (zmZ _ _ _)
  ·split
   ·exact zg fun _=>zg fun _=>zA (zeB _ _ _)
   ·exact zg fun _=>zg fun _=>zA (zeB _ _ _)
   ·exact zF
  ·refine xm ?_ zF;split
   ·exact zg fun _=>zg fun _=>zA (zco _ _ _)
   ·exact zg fun _=>zg fun _=>zA (zco _ _ _)
   ·exact zF
  ·split
   ·exact zg fun _=>zg fun _=>zA (zeC _ _ _)
   ·exact zg fun _=>zg fun _=>zA (zeC _ _ _)
   ·exact zF
  ·refine xm zF ?_;split
   ·exact zg fun _=>zg fun _=>zg fun _=>zA (zkx _ _ _ _)
   ·exact zg fun _=>zg fun _=>zg fun _=>zA (zkx _ _ _ _)
   ·exact zF
  ·exact zF
 |unOp u t x=>
  cases u with
  |not=>exact zg fun _=>zA (zm1 _)
  |neg=>exact zg fun _=>zA (zm2 _)
  |_=>exact zF
 |convert a b x=>
  unfold cOp;simp only;split
  ·exact zg fun _=>zA (zky _ _)
  ·rename_i h1 h2;simp only[yx,zkW,zdv,h1,h2]at hq;cases hq
  ·exact xm (zg fun _=>zA (zm6 _)) zF
  ·exact xm (zg fun _=>zA (zm0 _)) zF
  ·exact xm (zg fun _=>zA (zmY _ _ _)) zF
  ·exact zF
 |makeFunc f first captured=>
  cases f with
  |func f=>exact xm (zg fun _=>zA (zkr _ _)) zF
  |_=>exact zF
 |slice t x lo hi mx=>
  unfold cOp;simp only;split
  ·split
   ·exact xm zF (zg fun _=>zg fun _=>zg fun _=>zg fun _=>zA (ziA _ _ _ _ _))
   ·exact zF
  ·split
   ·exact xm zF (zg fun _=>zg fun _=>zg fun _=>zg fun _=>zA (zfP _ _ _ _ _ _))
   ·exact zF
  ·exact xm zF (zg fun _=>zg fun _=>zg fun _=>zA (zfO _ _ _))
  ·exact zF
 |fieldAddr t x f=>
  unfold cOp;simp only;split
  ·split
   ·split
    ·exact xm zF (zg fun _=>zA (zkw _ _))
    ·exact zF
   ·exact zF
  ·exact zF
 |field t x f=>
  unfold cOp;simp only;split
  ·split
   ·exact zg fun _=>zg fun _=>zA (ziF _ _ _)
   ·exact zF
  ·exact zF
 |indexAddr t x i=>
  unfold cOp;simp only;split
  ·split
   ·exact zg fun _=>zg fun _=>zA (zm3 _ _ _)
   ·exact zF
  ·split
   ·exact zg fun _=>zg fun _=>zA (ziD _ _ _ _)
   ·exact zF
  ·exact zF
 |index t x i=>
  unfold cOp;simp only;split
  ·split
   ·exact zg fun _=>zg fun _=>zg fun _=>zA (ziE _ _ _ _ _)
   ·exact zF
  ·exact zg fun _=>zg fun _=>zA (ziC _ _)
  ·exact zF
 |lookup t m k ok=>
  unfold cOp;simp only;split
  ·exact zg fun _=>zg fun _=>zg fun _=>zg fun _=>zA (zfR _ _ _ _ _)
  ·exact zF
 |extract x i=>exact zg fun _=>zA (zeD _ _)
 |call c=>
  obtain⟨callee,args,ts⟩:=c;cases callee with
  |builtin b=>
   cases b with
   |len=>
    unfold cOp;simp only;split
    ·split
     ·exact zg fun _=>zA (zkt _)
     ·exact zg fun _=>zA (zkv _)
     ·exact zg fun _=>zA (zku _)
     ·exact zA (zfQ _)
     ·exact zF
    ·exact zF
   |max=>
    unfold cOp;simp only;split
    ·exact zA (zbf _ _ _)
    ·exact zF
   |min=>
    unfold cOp;simp only;split
    ·exact zA (zbf _ _ _)
    ·exact zF
   |_=>cases hq
  |_=>cases hq
 |_=>cases hq
section
variable {P:Program} {t:Tr AVal} {call:zh}
def zql(f:OpFn)(call:zh)(t:Tr AVal)(nt:Nat):Prop:=∃(obj:AObj) (vf:BN→CVal),(∀hh:AHeap,f call t hh=some (.s (.one (vf hh.n)),hh.new obj))∧
 (∀(φ φ':Phi) b b',φ b=φ' b'→zi φ (vf b)=zi φ' (vf b'))∧(∀φ n b,okB φ n b→wfC φ n (vf b))∧∀φ n arr,TRel φ nt n t arr→OWf φ n obj
theorem ji(hh:AHeap)(o:AObj)(g:BN→CVal):newB hh o g=some (.s (.one (g hh.n)),hh.new o):=by cases hh;rfl
theorem zaR(φ φ':Phi)(b b':BN)(h:φ b=φ' b'):zi φ (.ptr b 0)=zi φ' (.ptr b' 0):=by simp only[zi,adr,h]
theorem zed(l c:Nat)(φ φ':Phi)(b b':BN)(h:φ b=φ' b'):zi φ (.slc b 0 l c true)=zi φ' (.slc b' 0 l c true):=by simp only[zi,adr,h,cond_true]
theorem za3{α:Type}{a:Option α}{g:α→Option OpFn}{h h2:AHeap}{v:AVal}(e:zY (a >>= g) call t h=some (v,h2)):∃x,a=some x∧zY (g x) call t h=some (v,h2):=by
 cases a with
 |none=>cases e
 |some x=>exact⟨x,rfl,e⟩
theorem zhg{nt:Nat}{o:Op}(hm:mkOp o=true){h h2:AHeap}{v:AVal}(e:cOp P o call t h=some (v,h2)):zql (cOp P o) call t nt:=by
 cases o with
 |alloc ty=>
  cases hz:z9 P ty with
  |none=>simp only[cOp,hz]at e;cases hb:kN P ty<;>rw[hb]at e<;>cases e
  |some z=>
   cases hb:kN P ty with
   |false=>
    refine⟨.cells z.cells 0,fun b=>.ptr b 0,fun hh=>?_,zaR,fun φ n b hb=>hb,fun φ n arr _=>?_⟩
    ·simp only[cOp,hz,hb];show zbb z.cells call t hh=_;exact ji _ _ _
    ·obtain⟨_,_,_,_,_,hwz⟩:=yO (φ:=φ) hz;exact fun c hc=>yZ (Nat.zero_le _) (hwz c hc)
   |true=>
    refine⟨.tcells z.cells ty true,fun b=>.ptr b 0,fun hh=>?_,zaR,fun φ n b hb=>hb,fun φ n arr _=>?_⟩
    ·simp only[cOp,hz,hb];show zaB ty z.cells call t hh=_;exact ji _ _ _
    ·obtain⟨_,_,_,_,_,hwz⟩:=yO (φ:=φ) hz;exact fun c hc=>yZ (Nat.zero_le _) (hwz c hc)
 |box ty x=>
  cases hx:cOpd x with
  |none=>simp only[cOp,hx]at e;cases e
  |some f=>
   simp only[cOp,hx]at e;have e:zbT f call t h=some (v,h2):=e;unfold zbT at e;split at e
   ·rename_i u hu;refine⟨.cells u.cells 0,fun b=>.ptr b 0,fun hh=>?_,zaR,fun φ n b hb=>hb,fun φ n arr T=>?_⟩
    ·simp only[cOp,hx];show zbT f call t hh=_;unfold zbT;rw[hu];exact ji _ _ _
    ·have:=(zm (a:=⟨arr,[]⟩) T hx).2;rw[hu]at this;exact wR this
   ·cases e
 |buildSlice ty len parts=>
  simp only[cOp]at e;split at e
  ·rename_i el hu;split at e
   ·rename_i i hi;cases hle:Nat.ble (len*i.size) 16777216 with
    |false=>rw[hle]at e;cases e
    |true=>
     rw[hle]at e;simp only[cond_true]at e;split at e
     ·rename_i zs hzs;cases hq:Nat.beq (len*i.size) 0||Nat.beq zs.length i.size with
      |false=>rw[hq]at e;cases e
      |true=>
       rw[hq]at e;simp only[cond_true]at e;obtain⟨r,hr,e⟩:=za3 e;have e:wm i.size len (repl zs len) r call t h=some (v,h2):=e;unfold wm at e;split at e
       ·rename_i cs hc;refine⟨.cells cs i.size,fun b=>.slc b 0 len len true,fun hh=>?_,zed len len,fun φ n b hb=>⟨hb,(fun hh=>by cases hh),fun _=>LzB _⟩,fun φ n arr T=>?_⟩
        ·simp only[cOp,hu,hi,hle,cond_true,hzs,hq,hr];show wm i.size len (repl zs len) r call t hh=_;unfold wm;rw[hc];exact ji _ _ _
        ·have T':TRel φ nt (AHeap.n ⟨bn n,.nil⟩).toNat t (Act.tmps ⟨arr,[]⟩):=by
          show TRel φ nt (bn n).toNat t arr;rw[zD];exact T
         obtain⟨hp,hw⟩:=xL T' i.size hr;have hwz:∀c∈repl zs len,wfC φ (AHeap.n ⟨bn n,.nil⟩).toNat c:=by
          refine jL (fun c hc=>?_) len
          cases h0:Nat.beq (len*i.size) 0 with
          |true=>rw[h0]at hzs;cases hzs;cases hc
          |false=>
           rw[h0]at hzs;simp only[cond_false]at hzs;cases hz:z9 P el with
           |none=>rw[hz]at hzs;cases hzs
           |some z=>
            rw[hz]at hzs;cases hzs;obtain⟨_,_,_,_,_,hwz⟩:=yO (φ:=φ) hz;exact yZ (Nat.zero_le _) (hwz c hc)
         have hf:=(vZ hp hwz hw hc).2.1;intro c hc;have:=hf c hc
         rwa [show (AHeap.n ⟨bn n,.nil⟩).toNat=n from zD n]at this
       ·cases e
     ·cases e
   ·cases e
  ·cases e
 |makeMap ty r=>
  cases r with
  |some r=>cases e
  |none=>
   refine⟨.map [],fun b=>.map b,fun hh=>?_,fun φ φ' b b' h=>by simp only[zi,h],fun φ n b hb=>hb,fun φ n arr _ p hp=>by cases hp⟩
   exact ji _ _ _
 |makeSlice ty l c=>
  simp only[cOp]at e;split at e
  ·rename_i el hu;split at e
   ·rename_i i z hi hz;cases hq:Nat.beq z.cells.length i.size && !Nat.beq i.size 0 with
    |false=>rw[hq]at e;cases e
    |true=>
     rw[hq]at e;simp only[cond_true]at e;obtain⟨fl,hl,e⟩:=za3 e;obtain⟨fc,hc,e⟩:=za3 e;have e:xI i.size z.cells i.bytes fl fc call t h=some (v,h2):=e;unfold xI at e;split at e
     ·rename_i x y hx hy;cases hb:Nat.ble x y&&Nat.ble y 1073741824&&Nat.ble (i.bytes*y) 281474976710656 with
      |false=>rw[hb]at e;cases e
      |true=>
       obtain⟨hb1,_⟩:=and2 hb;obtain⟨hb1,_⟩:=and2 hb1;refine⟨.cells (repl z.cells y) i.size,fun b=>.slc b 0 x y true,fun hh=>?_,zed x y,fun φ n b hb=>⟨hb,(fun hh=>by cases hh),fun _=>zT hb1⟩,fun φ n arr T=>?_⟩
       ·simp only[cOp,hu,hi,hz,hq,cond_true,hl,hc];show xI i.size z.cells i.bytes fl fc call t hh=_;unfold xI;rw[hx,hy];simp only[hb,cond_true];exact ji _ _ _
       ·obtain⟨_,_,_,_,_,hwz⟩:=yO (φ:=φ) hz;exact jL (fun c hc=>yZ (Nat.zero_le _) (hwz c hc)) y
     ·cases e
   ·cases e
  ·cases e
 |_=>cases hm
end
end Go.CE
end
noncomputable section
namespace Go.CE
open Go.RowKit
def gdv(g:GE):Option BN×AVal:=(g.d.rop.dst,g.v)
def hAt:AHeap→List GE→Nat→AHeap
 |h,_,0=>h
 |h,[],_+1=>h
 |_,g::l,j+1=>hAt g.ha l j
theorem zdB:∀(l:List GE) (h:AHeap) (j:Nat) (g:GE),l[j]? = some g→hAt h l (j+1)=g.ha
 | [],_,j,g,hj=>by simp at hj
 |g0::l,h,0,g,hj=>by simp only[List.getElem?_cons_zero,Option.some.injEq]at hj;subst hj;cases l<;>rfl
 |g0::l,h,j+1,g,hj=>by simp only[List.getElem?_cons_succ]at hj;exact zdB l g0.ha j g hj
theorem zhC(call:zh)(n0:Nat):∀(ds:List GOper) (i:Nat) (t:Tr AVal) (h:AHeap) (l:List GE) (t2:Tr AVal) (h2:AHeap),evG call n0 i ds t h=some (l,t2,h2)→
  l.map (·.d)=ds∧t2=frL (fun _=>true) 0 (l.map gdv) t∧h2=hAt h l l.length∧
  ∀j g,l[j]? = some g→g.tr=ui (frL (fun k=>decide (k<j)) 0 (l.map gdv) t) g.d.looks∧g.hb=hAt h l j∧stepG call n0 (i+j) g.d g.tr g.hb=some (g.v,g.ha)
 | [],i,t,h,l,t2,h2,e=>by
  cases e;exact⟨rfl,rfl,rfl,fun j g hj=>by simp at hj⟩
 |d::ds,i,t,h,l,t2,h2,e=>by
  unfold evG at e;split at e
  ·rename_i v0 h0 hv0;cases hr:evG call n0 (Nat.succ i) ds (setT t v0 d.rop.dst) h0 with
   |none=>rw[hr]at e;cases e
   |some p=>
    obtain⟨l',t',h'⟩:=p;rw[hr]at e;simp only[zr1,Option.some.injEq,Prod.mk.injEq]at e;obtain⟨rfl,rfl,rfl⟩:=e;obtain⟨g1,g2,g3,g4⟩:=zhC call n0 ds _ _ _ l' _ _ hr;have hfr:∀(L:Nat→Bool),frL L 0 (((⟨d,ui t d.looks,v0,h,h0⟩:GE)::l').map gdv) t=frL (fun k=>L (k+1)) 0 (l'.map gdv) (bif L 0 then setT t v0 d.rop.dst else t):=by
     intro L;simp only[List.map_cons];show frL L 0 ((d.rop.dst,v0)::l'.map gdv) t=_;rw[zhw,zbw]
    refine⟨by simp[g1],by rw[hfr,g2];rfl,g3,?_⟩
    intro j g hj;cases j with
    |zero=>
     simp only[List.getElem?_cons_zero,Option.some.injEq]at hj;subst hj;refine⟨?_,rfl,hv0⟩;rw[hfr];simp only[Nat.not_lt_zero,decide_false,cond_false]
     congr 1
     have:∀(r:List (Option BN×AVal)) (i:Nat) (t:Tr AVal),frL (fun _=>false) i r t=t:=by
      intro r
      induction r with
      |nil=>intro i t;rfl
      |cons p r ih=>intro i t;obtain⟨d,v⟩:=p;unfold frL;exact ih _ _
     exact(this _ _ _).symm
    |succ j=>
     simp only[List.getElem?_cons_succ]at hj;obtain⟨k1,k2,k3⟩:=g4 j g hj;refine⟨?_,k2,?_⟩
     ·rw[hfr,k1];simp
     ·rw[show i+(j+1)=Nat.succ i+j by omega];exact k3
  ·cases e
theorem zaH(es:List Bool):∀i,ce (fun _=>false) i es=0:=by
 induction es with
 |nil=>intro i;rfl
 |cons e es ih=>intro i;unfold ce;simp[ih]
theorem zlv(L:Nat→Bool)(e:Bool)(es:List Bool):ce L 0 (e::es)=(bif L 0&&e then 1 else 0)+ce (fun k=>L (k+1)) 0 es:=by
 rw[zlw,zdU];cases (L 0&&e)<;>simp<;>omega
theorem zf1:∀(l:List GE) (j:Nat) (g:GE),l[j]? = some g→g.d.eff=true→(hsG l)[ce (fun k=>decide (k<j)) 0 (l.map (·.d.eff))]? = some g.ha
 | [],j,g,hj,_=>by simp at hj
 |g0::l,0,g,hj,he=>by
  simp only[List.getElem?_cons_zero,Option.some.injEq]at hj;subst hj;have hz:ce (fun k=>decide (k<0)) 0 ((g0::l).map (·.d.eff))=0:=by
   rw[show (fun k=>decide (k<0))=(fun _:Nat=>false) from funext fun k=>by simp,zaH]
  rw[hz];unfold hsG;rw[he];rfl
 |g0::l,j+1,g,hj,he=>by
  simp only[List.getElem?_cons_succ]at hj;have ih:=zf1 l j g hj he;simp only[List.map_cons];rw[zlv];simp only[Nat.zero_lt_succ,decide_true,Bool.true_and,Nat.succ_lt_succ_iff];unfold hsG;cases h0:g0.d.eff with
  |true=>simp only[cond_true];rw[Nat.add_comm 1,List.getElem?_cons_succ];exact ih
  |false=>simp only[cond_false,Nat.zero_add];exact ih
theorem znj(g:GE)(l:List GE):hsG (g::l)=bif g.d.eff then g.ha::hsG l else hsG l:=rfl
def obG(n0:Nat)(l:List GE)(m:Nat):Option AObj:=
 match l[m]? with
 |some g=>bif g.d.mkb then g.ha.t.get (nm n0 m) else none
 |none=>none
def cmG(l:List GE)(m:Nat):Nat:=ce (fun k=>decide (k<m)) 0 (l.map (·.d.eff))
theorem zdQ(l:List GE):cmG l 0=0:=by
 unfold cmG;rw[show (fun k=>decide (k<0))=(fun _:Nat=>false) from funext fun k=>by simp,zaH]
theorem zdR(g:GE)(l:List GE)(m:Nat):cmG (g::l) (m+1)=(bif g.d.eff then 1 else 0)+cmG l m:=by
 unfold cmG;simp only[List.map_cons];rw[zlv];simp
theorem zdm{n0:Nat}:∀(l:List GE) (c i:Nat) (x:Nat×Nat×AObj),(∀g∈l,g.d.mkb=true→g.d.eff=false)→x∈mksG n0 c i l→
  ∃m,x.2.1=i+m∧(∃g,l[m]? = some g∧g.d.mkb=true∧g.ha.t.get (nm n0 (i+m))=some x.2.2)∧x.1=c+cmG l m
 | [],c,i,x,_,hx=>by cases hx
 |g::l,c,i,x,hall,hx=>by
  have step:∀c',x∈mksG n0 c' (Nat.succ i) l→c'=c+(bif g.d.eff then 1 else 0)→∃m,x.2.1=i+m∧(∃g',(g::l)[m]? = some g'∧g'.d.mkb=true∧g'.ha.t.get (nm n0 (i+m))=some x.2.2)∧x.1=c+cmG (g::l) m:=by
   intro c' hx' hc;obtain⟨m,k1,⟨g',k2,k3,k4⟩,k5⟩:=zdm l c' (Nat.succ i) x (fun g' hg'=>hall g' (by simp[hg'])) hx'
   refine⟨m+1,by omega,⟨g',by simpa using k2,k3,by rw[show i+(m+1)=Nat.succ i+m by omega];exact k4⟩,?_⟩
   rw[k5,zdR,hc];omega
  unfold mksG at hx;cases hm:g.d.mkb with
  |false=>
   rw[hm]at hx;simp only[cond_false]at hx;refine step _ hx ?_;cases g.d.eff<;>rfl
  |true=>
   have he:=hall g (by simp) hm
   rw[hm]at hx;simp only[cond_true]at hx;split at hx
   ·rename_i o ho;rcases List.mem_cons.1 hx with rfl|hx
    ·exact⟨0,rfl,⟨g,rfl,hm,ho⟩,by rw[zdQ];rfl⟩
    ·exact step c hx (by rw[he];rfl)
   ·exact step c hx (by rw[he];rfl)
theorem zbu{n0 k:Nat}:∀(l:List (Nat×Nat×AObj)) (t:Tr AObj) (b:BN),(jV n0 k l t).get b=t.get b∨∃x∈l,k≤x.1∧b=nm n0 x.2.1∧(jV n0 k l t).get b=some x.2.2
 | [],t,b=>.inl rfl
 |(c,j,o)::l,t,b=>by
  unfold jV;rcases zbu l (bif Nat.ble k c then t.set (bn (Nat.add n0 j)) o else t) b with h|⟨x,hx,h1,h2,h3⟩
  ·rw[h];cases hk:Nat.ble k c with
   |false=>exact .inl rfl
   |true=>
    simp only[cond_true];by_cases hb:b=bn (Nat.add n0 j)
    ·subst hb;exact .inr ⟨(c,j,o),by simp,zT hk,rfl,zw _ _ _⟩
    ·exact .inl (zo _ _ _ _ hb)
  ·exact .inr ⟨x,by simp[hx],h1,h2,h3⟩
end Go.CE
end
section
namespace Go.CE
open Go.RowKit
theorem zdz:∀(l:List GE) (k:Nat) (h:AHeap),(hsG l)[k]? = some h→∃j g,l[j]? = some g∧g.d.eff=true∧cmG l j=k∧g.ha=h
 | [],k,h,e=>by simp[hsG]at e
 |g::l,k,h,e=>by
  rw[znj]at e;cases he:g.d.eff with
  |false=>
   rw[he]at e;obtain⟨j,g',k1,k2,k3,k4⟩:=zdz l k h e;exact⟨j+1,g',by simpa using k1,k2,by rw[zdR,he,k3];simp,k4⟩
  |true=>
   rw[he]at e;simp only[cond_true]at e;cases k with
   |zero=>simp only[List.getElem?_cons_zero,Option.some.injEq]at e;exact⟨0,g,rfl,he,zdQ _,e⟩
   |succ k=>
    simp only[List.getElem?_cons_succ]at e;obtain⟨j,g',k1,k2,k3,k4⟩:=zdz l k h e;exact⟨j+1,g',by simpa using k1,k2,by rw[zdR,he,k3];simp;omega,k4⟩
theorem ve{bs:List Nat}{i:Nat}:∀(os:List Oper) (off j':Nat),j'∈yz bs i off os↔∃j o,os[j]? = some o∧j'=off+j∧(mkOp o.op&&bef bs (off+j) i)=false
 | [],off,j'=>by simp[yz]
 |o::os,off,j'=>by
  have ih:=ve (bs:=bs) (i:=i) os (Nat.succ off) j';have tail:(∃j o',os[j]? = some o'∧j'=Nat.succ off+j∧(mkOp o'.op&&bef bs (Nat.succ off+j) i)=false)↔∃j o',(o::os)[j+1]? = some o'∧j'=off+(j+1)∧(mkOp o'.op&&bef bs (off+(j+1)) i)=false:=by
   constructor
   ·rintro⟨j,o',h1,h2,h3⟩
    exact⟨j,o',by simpa using h1,by omega,by rw[show off+(j+1)=Nat.succ off+j by omega];exact h3⟩
   ·rintro⟨j,o',h1,h2,h3⟩
    exact⟨j,o',by simpa using h1,by omega,by rw[show Nat.succ off+j=off+(j+1) by omega];exact h3⟩
  unfold yz;cases hq:mkOp o.op&&bef bs off i with
  |true=>
   simp only[cond_true];rw[ih,tail]
   constructor
   ·rintro⟨j,o',h1,h2,h3⟩;exact⟨j+1,o',h1,h2,h3⟩
   ·rintro⟨j,o',h1,h2,h3⟩
    cases j with
    |zero=>simp only[List.getElem?_cons_zero,Option.some.injEq]at h1;subst h1;rw[Nat.add_zero,hq]at h3;cases h3
    |succ j=>exact⟨j,o',h1,h2,h3⟩
  |false=>
   simp only[cond_false,List.mem_cons];rw[ih,tail]
   constructor
   ·rintro (rfl|⟨j,o',h1,h2,h3⟩)
    ·exact⟨0,o,rfl,rfl,by rw[Nat.add_zero];exact hq⟩
    ·exact⟨j+1,o',h1,h2,h3⟩
   ·rintro⟨j,o',h1,h2,h3⟩
    cases j with
    |zero=>exact .inl h2
    |succ j=>exact .inr ⟨j,o',h1,h2,h3⟩
theorem zaj(P:Program)(nt:Nat)(ops:Array Oper)(bs:List Nat)(es:List Bool):∀(os:List Oper) (i j:Nat),(y2 P nt ops bs es i os)[j]? = (os[j]?).map fun o=>
  (⟨yL P nt ops o,(o.looksAt ops).map bn,anchor P o.op,mkOp o.op,ce (fun k=>bef bs k (i+j)) 0 es,ce (fun k=>!bef bs (i+j) k) 0 es,yz bs (i+j) 0 ops.toList⟩:GOper)
 | [],i,j=>by simp[y2]
 |o::os,i,0=>by simp[y2]
 |o::os,i,j+1=>by
  simp only[y2,List.getElem?_cons_succ];rw[zaj P nt ops bs es os (Nat.succ i) j,show Nat.succ i+j=i+(j+1) by omega]
structure Spc (n0 N:Nat) (l:List GE) (L:Nat→Bool) (k:Nat) (Hk H:AHeap):Prop where
 n:H.n.toNat=Hk.n.toNat
 old:∀b:BN,(b.toNat<n0∨n0+N≤b.toNat)→H.t.get b=Hk.t.get b
 res:∀m,m<N→H.t.get (nm n0 m)=if L m=true then(if k≤cmG l m then obG n0 l m else Hk.t.get (nm n0 m)) else none
noncomputable abbrev FG(n0:Nat)(l:List GE)(k:Nat)(Hk:AHeap)(m:Nat):Option AObj:=if k≤cmG l m then obG n0 l m else Hk.t.get (nm n0 m)
theorem zcm(n0 N:Nat)(b:BN):(b.toNat<n0∨n0+N≤b.toNat)∨∃m,m<N∧b=nm n0 m:=by
 by_cases h:b.toNat<n0∨n0+N≤b.toNat
 ·exact .inl h
 ·exact .inr ⟨b.toNat-n0,by omega,zsS (by omega)⟩
section
variable {P:Program} {nt:Nat} {call:zh} {ops:Array Oper} {n0:Nat} {t t2:Tr AVal} {h0 h2:AHeap} {l:List GE}
structure Txt (P:Program) (nt:Nat) (call:zh) (ops:Array Oper) (n0:Nat) (t t2:Tr AVal) (h0 h2:AHeap) (l:List GE):Prop where
 len:l.length=ops.size
 es:l.map (·.d.eff)=ancs P ops.toList
 ent:∀(j:Nat) (o:Oper),ops[j]? = some o→∃g,l[j]? = some g∧g.d=⟨yL P nt ops o,(o.looksAt ops).map bn,anchor P o.op,mkOp o.op,ce (fun k=>bef (befs ops.toList) k j) 0 (ancs P ops.toList),ce (fun k=>!bef (befs ops.toList) j k) 0 (ancs P ops.toList),yz (befs ops.toList) j 0 ops.toList⟩
 fr:t2=frL (fun _=>true) 0 (l.map gdv) t
 fin:h2=hAt h0 l ops.size
 step:∀j g,l[j]? = some g→g.tr=ui (frL (fun k=>decide (k<j)) 0 (l.map gdv) t) g.d.looks∧g.hb=hAt h0 l j∧stepG call n0 j g.d g.tr g.hb=some (g.v,g.ha)
 fresh:∀m,m<ops.size→h0.t.get (nm n0 m)=none
theorem zqy(e:evG call n0 0 (vh P nt ops) t h0=some (l,t2,h2))(hf:∀m,m<ops.size→h0.t.get (nm n0 m)=none):Txt P nt call ops n0 t t2 h0 h2 l:=by
 obtain⟨g1,g2,g3,g4⟩:=zhC call n0 _ _ _ _ _ _ _ e;have hget:∀(j:Nat) (o:Oper),ops[j]? = some o→(vh P nt ops)[j]? = some ⟨yL P nt ops o,(o.looksAt ops).map bn,anchor P o.op,mkOp o.op,ce (fun k=>bef (befs ops.toList) k j) 0 (ancs P ops.toList),ce (fun k=>!bef (befs ops.toList) j k) 0 (ancs P ops.toList),yz (befs ops.toList) j 0 ops.toList⟩:=by
  intro j o ho;unfold vh;rw[zaj,LzA,ho,Nat.zero_add];rfl
 have hlen:(vh P nt ops).length=ops.size:=by
  have key:∀(os:List Oper) (i:Nat),(y2 P nt ops (befs ops.toList) (ancs P ops.toList) i os).length=os.length:=by
   intro os
   induction os with
   |nil=>intro i;rfl
   |cons o os ih=>intro i;simp only[y2,List.length_cons,ih]
  unfold vh;rw[key,Array.length_toList]
 have hll:l.length=ops.size:=by rw[←hlen,←g1,List.length_map]
 refine⟨hll,?_,fun j o ho=>?_,g2,by rw[g3,hll],fun j g hj=>by have:=g4 j g hj;rwa [Nat.zero_add]at this,hf⟩
 ·rw[show (fun x:GE=>x.d.eff)=GOper.eff ∘ GE.d from rfl,←List.map_map,g1]
  have key:∀(os:List Oper) (i:Nat),(y2 P nt ops (befs ops.toList) (ancs P ops.toList) i os).map GOper.eff=ancs P os:=by
   intro os
   induction os with
   |nil=>intro i;rfl
   |cons o os ih=>intro i;simp only[y2,List.map_cons,ih];rfl
  exact key _ _
 ·have h1:=hget j o ho;rw[←g1,Lz6]at h1;cases hx:l[j]? with
  |none=>rw[hx]at h1;cases h1
  |some g=>rw[hx]at h1;exact⟨g,rfl,by simpa using h1⟩
theorem qB{φ:Phi}{n:Nat}{tr:Tr AVal}{h h2:AHeap}{a:Act}{v:AVal}{o:Oper}(e:xj call (yL P nt ops o) tr h=some (v,h2))(T:TRel φ nt n tr a.tmps):
  (Region.wanted o (yielded ops a.tmps)=true∧cOp P o.op call tr h=some (v,h2))∨(Region.wanted o (yielded ops a.tmps)=false∧v=z7∧h2=h):=by
 have key:∀hh:AHeap,hh.n.toNat=n→xj call (yL P nt ops o) tr ⟨hh.n,h.t⟩=xj call (yL P nt ops o) tr ⟨hh.n,h.t⟩→True:=fun _ _ _=>trivial
 unfold yL at e;have bad:∀{o':ROper},o'=⟨none,yV,none⟩→xj call o' tr h=some (v,h2)→False:=by
  intro o' ho' e;subst ho';cases e
 cases hd:inT nt o.dst with
 |false=>rw[hd]at e;exact(bad rfl e).elim
 |true=>
  rw[hd]at e;simp only[cond_true]at e;have fin:∀g,xj call ⟨o.dst.map bn,cOp P o.op,g⟩ tr h=some (v,h2)→(want tr g=true∧cOp P o.op call tr h=some (v,h2))∨(want tr g=false∧v=z7∧h2=h):=by
   intro g e;unfold xj at e;simp only at e;cases hw:want tr g with
   |false=>rw[hw]at e;cases e;exact .inr ⟨rfl,rfl,rfl⟩
   |true=>rw[hw]at e;exact .inl ⟨rfl,e⟩
  split at e
  ·rename_i hg;rcases fin none e with hh|⟨hw,_⟩
   ·exact .inl ⟨by simp[Region.wanted,hg],hh.2⟩
   ·cases hw
  ·rename_i j b hg;split at e
   ·rename_i d hjd;cases hb:Nat.ble (Nat.succ d) nt with
    |false=>rw[hb]at e;exact(bad rfl e).elim
    |true=>
     rw[hb]at e;have T':TRel φ nt (AHeap.n ⟨bn n,.nil⟩).toNat tr a.tmps:=by
      show TRel φ nt (bn n).toNat tr a.tmps;rw[zD];exact T
     have hyd:=qk T' hjd (zT hb) b;rcases fin (some (bn d,b)) e with⟨hw,hh⟩|⟨hw,hh⟩
     ·exact .inl ⟨by simp only[Region.wanted,hg];rw[hyd];exact hw,hh⟩
     ·exact .inr ⟨by simp only[Region.wanted,hg];rw[hyd];exact hw,hh⟩
   ·exact(bad rfl e).elim
theorem znx{tr:Tr AVal}{h h2:AHeap}{v:AVal}{o:Oper}(e:xj call (yL P nt ops o) tr h=some (v,h2)):cOp P o.op call tr h=some (v,h2)∨(v=z7∧h2=h):=by
 unfold yL at e;have fin:∀(d:Option BN) (f:OpFn) g,xj call ⟨d,f,g⟩ tr h=some (v,h2)→f call tr h=some (v,h2)∨(v=z7∧h2=h):=by
  intro d f g e;unfold xj at e;simp only at e;cases hw:want tr g with
  |false=>rw[hw]at e;cases e;exact .inr ⟨rfl,rfl⟩
  |true=>rw[hw]at e;exact .inl e
 have bad:∀(g:Option (BN×Bool)),xj call ⟨none,yV,none⟩ tr h=some (v,h2)→False:=fun _ e=>by cases e
 cases hd:inT nt o.dst with
 |false=>rw[hd]at e;exact(bad none e).elim
 |true=>
  rw[hd]at e;simp only[cond_true]at e;split at e
  ·exact fin _ _ _ e
  ·split at e
   ·rename_i d _;cases hb:Nat.ble (Nat.succ d) nt with
    |false=>rw[hb]at e;exact(bad none e).elim
    |true=>rw[hb]at e;exact fin _ _ _ e
   ·exact(bad none e).elim
theorem wI{o:Op}(h:mkOp o=true):anchor P o=false:=by simp[anchor,h]
theorem zkN(P:Program)(o:Op):mkOp o=true∨(mkOp o=false∧anchor P o=true)∨(mkOp o=false∧anchor P o=false∧yx P o=true):=by
 cases hm:mkOp o with
 |true=>exact .inl rfl
 |false=>
  cases hq:yx P o with
  |true=>exact .inr (.inr ⟨rfl,by simp[anchor,hm,hq],rfl⟩)
  |false=>exact .inr (.inl ⟨rfl,by simp[anchor,hm,hq]⟩)
theorem Txt.made(X:Txt P nt call ops n0 t t2 h0 h2 l){j:Nat}{o:Oper}{g:GE}(ho:ops[j]? = some o)(hg:l[j]? = some g)(hm:mkOp o.op=true):
  g.ha.n=g.hb.n∧(∀b,b≠nm n0 j→g.ha.t.get b=g.hb.t.get b)∧∃h',xj call (yL P nt ops o) g.tr ⟨nm n0 j,g.hb.t⟩=some (g.v,h')∧h'.t=g.ha.t:=by
 obtain⟨g',hg',hd⟩:=X.ent j o ho;cases hg.symm.trans hg';obtain⟨_,_,hs⟩:=X.step j g hg;unfold stepG at hs;rw[hd]at hs;simp only[hm,cond_true]at hs;split at hs
 ·rename_i v h' he;simp only[Option.some.injEq,Prod.mk.injEq]at hs;obtain⟨rfl,hs⟩:=hs;rw[←hs];refine⟨rfl,fun b hb=>?_,h',he,rfl⟩
  rcases znx he with hc|⟨_,rfl⟩
  ·obtain⟨obj,vf,hsh,_⟩:=zhg (nt:=nt) hm hc;have:=hsh ⟨nm n0 j,g.hb.t⟩;rw[hc]at this;simp only[Option.some.injEq,Prod.mk.injEq]at this;rw[this.2];exact zo _ _ _ _ hb
  ·rfl
 ·cases hs
theorem Txt.quiet(X:Txt P nt call ops n0 t t2 h0 h2 l){j:Nat}{o:Oper}{g:GE}(ho:ops[j]? = some o)(hg:l[j]? = some g)(hm:mkOp o.op=false)(ha:anchor P o.op=false):
  g.ha=g.hb∧∃h',xj call (yL P nt ops o) g.tr ⟨g.hb.n,delH n0 (yz (befs ops.toList) j 0 ops.toList) g.hb.t⟩=some (g.v,h'):=by
 obtain⟨g',hg',hd⟩:=X.ent j o ho;cases hg.symm.trans hg';obtain⟨_,_,hs⟩:=X.step j g hg;unfold stepG at hs;rw[hd]at hs;simp only[hm,ha,cond_false]at hs;split at hs
 ·rename_i v h' he;simp only[Option.some.injEq,Prod.mk.injEq]at hs;obtain⟨rfl,hs⟩:=hs;exact⟨hs.symm,h',he⟩
 ·cases hs
theorem Txt.anchor(X:Txt P nt call ops n0 t t2 h0 h2 l){j:Nat}{o:Oper}{g:GE}(ho:ops[j]? = some o)(hg:l[j]? = some g)(hm:mkOp o.op=false)(ha:anchor P o.op=true):
  ∃h',xj call (yL P nt ops o) g.tr ⟨g.hb.n,delH n0 (yz (befs ops.toList) j 0 ops.toList) g.hb.t⟩=some (g.v,h')∧g.ha.n=h'.n∧(∀i∈yz (befs ops.toList) j 0 ops.toList,g.ha.t.get (nm n0 i)=g.hb.t.get (nm n0 i)∧h'.t.get (nm n0 i)=none)∧
   ∀b,(∀i∈yz (befs ops.toList) j 0 ops.toList,b≠nm n0 i)→g.ha.t.get b=h'.t.get b:=by
 obtain⟨g',hg',hd⟩:=X.ent j o ho;cases hg.symm.trans hg';obtain⟨_,_,hs⟩:=X.step j g hg;unfold stepG at hs;rw[hd]at hs;simp only[hm,ha,cond_false,cond_true]at hs;split at hs
 ·rename_i v h' he;split at hs
  ·rename_i t' ht;simp only[Option.some.injEq,Prod.mk.injEq]at hs;obtain⟨rfl,hs⟩:=hs;obtain⟨k1,k2,k3⟩:=jv _ _ _ ht;rw[←hs];exact⟨h',he,rfl,fun i hi=>⟨k1 i hi,k3 i hi⟩,k2⟩
  ·cases hs
 ·cases hs
theorem Txt.mkeff(X:Txt P nt call ops n0 t t2 h0 h2 l):∀g∈l,g.d.mkb=true→g.d.eff=false:=by
 intro g hg hm;obtain⟨j,hj⟩:=List.mem_iff_getElem?.1 hg;have hjl:j<ops.size:=by rw[←X.len];exact(Lz0.1 hj).1
 obtain⟨g',hg',hd⟩:=X.ent j _ (Array.getElem?_eq_getElem hjl);cases hj.symm.trans hg';rw[hd]at hm ⊢;exact wI hm
theorem Txt.ob(X:Txt P nt call ops n0 t t2 h0 h2 l){j:Nat}{o:Oper}{g:GE}(ho:ops[j]? = some o)(hg:l[j]? = some g):obG n0 l j=bif mkOp o.op then g.ha.t.get (nm n0 j) else none:=by
 obtain⟨g',hg',hd⟩:=X.ent j o ho;cases hg.symm.trans hg';unfold obG;rw[hg];simp only;rw[hd]
theorem Txt.spc(X:Txt P nt call ops n0 t t2 h0 h2 l)(hA:∀(i:Nat) (o:Oper),ops[i]? = some o→∀e∈o.after.toList,Region.binds .any e=true→e.on<i):
  ∀j,j≤ops.size→∃Hk,(h0::hsG l)[cmG l j]? = some Hk∧Spc n0 ops.size l (fun m=>decide (m<j)) (cmG l j) Hk (hAt h0 l j):=by
 have hbef:∀i j,bef (befs ops.toList) i j=true→i<j:=by
  intro i j hb;have hC:Clo ops (fun k=>decide (k<j)):=by
   intro q hq o' e ho' he hb';have:=hA q o' ho' e he hb';simp only[decide_eq_true_eq]at hq ⊢;omega
  have hR:Rdy ops (fun k=>decide (k<j)) j:=by
   intro o' e ho' he hb';have:=hA j o' ho' e he hb'
   simpa using this
  have:=x4 hb hC hR
  simpa using this
 intro j
 induction j with
 |zero=>
  intro _;have e0:hAt h0 l 0=h0:=by cases l<;>rfl
  rw[e0,zdQ];refine⟨h0,rfl,rfl,fun _ _=>rfl,fun m hm=>?_⟩
  rw[if_neg (by simp)]
  exact X.fresh m hm
 |succ j ih=>
  intro hj;obtain⟨Hk,hHk,S⟩:=ih (by omega)
  have hjs:j<ops.size:=by omega
  have ho:ops[j]? = some ops[j]:=Array.getElem?_eq_getElem hjs;generalize ops[j]=o at ho;obtain⟨g,hg,hd⟩:=X.ent j o ho;have hhb:=(X.step j g hg).2.1;have hha:hAt h0 l (j+1)=g.ha:=zdB l h0 j g hg;have heff:(l.map (·.d.eff))[j]? = some (CE.anchor P o.op):=by rw[Lz6,hg];simp[hd]
  have hcm:cmG l (j+1)=cmG l j+(bif CE.anchor P o.op then 1 else 0):=by
   cases ha:CE.anchor P o.op with
   |false=>
    rw[cond_false,Nat.add_zero];refine wo _ 0 fun k hk=>?_
    rw[Nat.zero_add];have:k≠j:=fun hh=>by rw[hh,heff,ha]at hk;cases hk
    simp only[decide_eq_decide];omega
   |true=>
    rw[cond_true];exact ze3 _ 0 j (by rw[heff,ha]) (by simp) (by simp) (fun k hk=>by rw[Nat.zero_add]at hk;simp only[decide_eq_decide];omega)
  rw[hha];rcases zkN P o.op with hm|⟨hm,ha⟩|⟨hm,ha,_⟩
  ·
   obtain⟨k1,k2,h',k3,k4⟩:=X.made ho hg hm;rw[hcm,wI hm,cond_false,Nat.add_zero];refine⟨Hk,hHk,by rw[k1,hhb];exact S.n,fun b hb=>?_,fun m hmN=>?_⟩
   ·rw[k2 b (fun hh=>by rw[hh,yq]at hb;omega),hhb];exact S.old b hb
   ·by_cases hmj:m=j
    ·subst hmj;rw[if_pos (by simp),if_pos (LzB _),X.ob ho hg,hm]
     rfl
    ·rw[k2 _ (fun hh=>hmj (vr hh)),hhb,S.res m hmN]
     by_cases hlt:m<j
     ·rw[if_pos (show decide (m<j)=true by simpa using hlt),if_pos (show decide (m<j+1)=true by simp only[decide_eq_true_eq];omega)]
     ·rw[if_neg (show ¬decide (m<j)=true by simpa using hlt),if_neg (show ¬decide (m<j+1)=true by simp only[decide_eq_true_eq];omega)]
  ·
   obtain⟨h',k1,k2,k3,k4⟩:=X.anchor ho hg hm ha;rw[hcm,ha,cond_true];refine⟨g.ha,?_,rfl,fun _ _=>rfl,fun m hmN=>?_⟩
   ·rw[List.getElem?_cons_succ];exact zf1 l j g hg (by rw[hd];exact ha)
   ·by_cases hlt:m<j+1
    ·rw[if_pos (by simpa using hlt),if_neg]
     have:cmG l m≤cmG l j:=xS _ 0 fun k _ hk=>by simp only[decide_eq_true_eq]at hk ⊢;omega
     omega
    ·rw[if_neg (by simpa using hlt)]
     have hmem:m∈yz (befs ops.toList) j 0 ops.toList:=by
      rw[ve];refine⟨m,ops[m],by rw[LzA];exact Array.getElem?_eq_getElem hmN,by omega,?_⟩
      rw[Nat.zero_add];cases hb:bef (befs ops.toList) m j with
      |false=>simp
      |true=>have:=hbef m j hb;omega
     rw[(k3 m hmem).1,hhb,S.res m hmN,if_neg (show ¬decide (m<j)=true by simp only[decide_eq_true_eq];omega)]
  ·
   obtain⟨k1,_⟩:=X.quiet ho hg hm ha;rw[hcm,ha,cond_false,Nat.add_zero,k1,hhb];refine⟨Hk,hHk,S.n,S.old,fun m hmN=>?_⟩
   rw[S.res m hmN];by_cases hmj:m=j
   ·subst hmj;rw[if_neg (show ¬decide (m<m)=true by simp),if_pos (show decide (m<m+1)=true by simp),if_pos (LzB _),X.ob ho hg,hm]
    rfl
   ·by_cases hlt:m<j
    ·rw[if_pos (show decide (m<j)=true by simpa using hlt),if_pos (show decide (m<j+1)=true by simp only[decide_eq_true_eq];omega)]
    ·rw[if_neg (show ¬decide (m<j)=true by simpa using hlt),if_neg (show ¬decide (m<j+1)=true by simp only[decide_eq_true_eq];omega)]
end
end Go.CE
end
section
namespace Go.CE
open Go.RowKit
section
variable {P:Program} {w0:World} {S:Nat→Prop} {nt:Nat} {call:zh} {ops:Array Oper}
theorem zeW(hok:uu P ops (befs ops.toList)=true):(∀(i:Nat) (o:Oper),ops[i]? = some o→(∀cs b,o.op≠.select cs b)∧∀e∈o.after.toList,Region.binds .any e=true→e.on<i)∧
  ∀(i j:Nat) (oi oj:Oper),ops[i]? = some oi→ops[j]? = some oj→i<j→bef (befs ops.toList) i j=true∨(oi.apart ops oj=true∧(anchor P oi.op=false∨anchor P oj.op=false)):=by
 obtain⟨h1,h2⟩:=and2 hok
 constructor
 ·intro i o ho;have:=vn _ 0 h1 i o (by rw[LzA];exact ho)
  rw[Nat.zero_add]at this;obtain⟨g1,g2⟩:=and2 this;refine⟨(fun cs b hh=>by rw[hh]at g1;cases g1),fun e he hb=>?_⟩
  rw[List.all_eq_true]at g2;have:=g2 e he;rw[hb]at this;exact zT (by simpa using this)
 ·intro i j oi oj hi hj hlt;have:=vn _ 0 h2 j oj (by rw[LzA];exact hj)
  rw[Nat.zero_add]at this;have:=vn _ 0 this i oi (by rw[LzA];exact hi)
  rw[Nat.zero_add]at this;simp only[Bool.or_eq_true]at this;rcases this with (this|this)|this
  ·have hle:Nat.ble (Nat.succ i) j=true:=Nat.ble_eq_true_of_le hlt;rw[hle]at this;cases this
  ·exact .inl this
  ·obtain⟨k1,k2⟩:=and2 this;exact .inr ⟨k1,by simpa using k2⟩
theorem zb8{n0:Nat}{d:GOper}{tr:Tr AVal}{v:AVal}{mks:List (Nat×Nat×AObj)}:∀(hs:List AHeap) (c:Nat),zim call n0 d tr v mks c hs=true→∀(k:Nat) (hk:AHeap),hs[k]? = some hk→
  ∃h',xj call d.rop tr ⟨hk.n,delH n0 d.hide (jV n0 (c+k) mks hk.t)⟩=some (v,h')
 | [],_,_,k,hk,hh=>by simp at hh
 |h::hs,c,e,k,hk,hh=>by
  unfold zim at e;split at e
  ·rename_i v' h' hv;obtain⟨e1,e2⟩:=and2 e;cases k with
   |zero=>
    simp only[List.getElem?_cons_zero,Option.some.injEq]at hh;subst hh;exact⟨h',by rw[Nat.add_zero,hv,zhG e1]⟩
   |succ k=>
    have:=zb8 hs (Nat.succ c) e2 k hk (by simpa using hh)
    rwa [show Nat.succ c+k=c+(k+1) by omega]at this
  ·cases e
theorem zbE{n0:Nat}{mks:List (Nat×Nat×AObj)}{hs:List AHeap}:∀(l:List GE),vA call n0 mks hs l=true→∀(j:Nat) (g:GE),l[j]? = some g→g.d.eff=false→g.d.mkb=false→
  g.d.lo=g.d.hi∨∀k hk,g.d.lo≤k→k≤g.d.hi→hs[k]? = some hk→∃h',xj call g.d.rop g.tr ⟨hk.n,delH n0 g.d.hide (jV n0 k mks hk.t)⟩=some (g.v,h')
 | [],_,j,g,hj,_,_=>by simp at hj
 |g0::l,e,j,g,hj,hd,hm=>by
  obtain⟨e1,e2⟩:=and2 e;cases j with
  |zero=>
   simp only[List.getElem?_cons_zero,Option.some.injEq]at hj;subst hj;rw[hd,hm]at e1;simp only[Bool.false_or,Bool.or_eq_true]at e1;rcases e1 with e1|e1
   ·exact .inl (beq_true e1)
   ·refine .inr fun k hk h1 h2 h3=>?_
    have:=zb8 _ _ e1 (k-g0.d.lo) hk (by
     rw[List.getElem?_take_of_lt (by show k-g0.d.lo<Nat.sub (Nat.succ g0.d.hi) g0.d.lo;have:Nat.sub (Nat.succ g0.d.hi) g0.d.lo=g0.d.hi+1-g0.d.lo:=rfl;omega),List.getElem?_drop]
     rw[show g0.d.lo+(k-g0.d.lo)=k by omega]
     exact h3)
    rwa [show g0.d.lo+(k-g0.d.lo)=k by omega]at this
  |succ j=>exact zbE l e2 j g (by simpa using hj) hd hm
theorem ziX(C:y8 P call){Q:Exit→Act→World→Prop}{a0:Act}{t t2:Tr AVal}{hh0 h0 h2:AHeap}{φ0:Phi}{l:List GE}{ro:Option Nat}{n0:Nat}
  (hok:uu P ops (befs ops.toList)=true) (X:Txt P nt call ops n0 t t2 h0 h2 l) (hch:vA call n0 (mksG n0 0 0 l) (h0::hsG l) l=true) (hn0:hh0.n.toNat=n0) (hh0n:h0.n.toNat=n0+ops.size)
  (hQ:∀a2 w2,Next1 w0 S φ0 nt hh0 t2 h2 a0 a2 w2→Q .normal a2 w2):
  ∀(fuel:Nat) (listed:Array Bool) (φ:Phi) (a:Act) (w:World) (Hk H:AHeap),listed.size=ops.size→unl listed≤fuel→Clo ops (lst listed)→Ext n0 φ0 φ→
   (h0::hsG l)[ce (lst listed) 0 (ancs P ops.toList)]? = some Hk→Spc n0 ops.size l (lst listed) (ce (lst listed) 0 (ancs P ops.toList)) Hk H→HRel w0 S φ H w→n0+ops.size≤H.n.toNat→
   TRel φ nt H.n.toNat (frL (lst listed) 0 (l.map gdv) t) a.tmps→a.defers=a0.defers→(∀m,m<ops.size→lst listed m=false→(φ (nm n0 m)).ok=false)→
   wpAnyIn (FR ro) 0 P .any ops Q fuel listed a w:=by
 obtain⟨hA,hord⟩:=zeW hok;have hA':∀(i:Nat) (o:Oper),ops[i]? = some o→∀e∈o.after.toList,Region.binds .any e=true→e.on<i:=fun i o ho=>(hA i o ho).2
 have hbef:∀i j,bef (befs ops.toList) i j=true→i<j:=by
  intro i j hb;have hC:Clo ops (fun k=>decide (k<j)):=by
   intro q hq o' e ho' he hb';have:=hA' q o' ho' e he hb';simp only[decide_eq_true_eq]at hq ⊢;omega
  have hR:Rdy ops (fun k=>decide (k<j)) j:=by
   intro o' e ho' he hb';have:=hA' j o' ho' e he hb'
   simpa using this
  simpa using x4 hb hC hR
 have hspc:=X.spc hA';have hcmE:∀j,cmG l j=ce (fun k=>decide (k<j)) 0 (ancs P ops.toList):=fun j=>by unfold cmG;rw[X.es]
 have hdst:∀(j:Nat) (o:Oper) (g:GE),ops[j]? = some o→l[j]? = some g→g.d.rop.dst=o.dst.map bn∧inT nt o.dst=true:=by
  intro j o g ho hj;obtain⟨g',hj',hd⟩:=X.ent j o ho;cases hj.symm.trans hj';rw[hd];rcases zkN P o.op with hm|⟨hm,ha⟩|⟨hm,ha,_⟩
  ·obtain⟨_,_,h',he,_⟩:=X.made ho hj hm;exact k7 he
  ·obtain⟨h',he,_⟩:=X.anchor ho hj hm ha;exact k7 he
  ·obtain⟨_,h',he⟩:=X.quiet ho hj hm ha;exact k7 he
 have hdv:∀(j:Nat) (d:Option BN) (v:AVal) (s:BN),(l.map gdv)[j]? = some (d,v)→d=some s→∃o sn,ops[j]? = some o∧o.dst=some sn∧bn sn=s:=by
  intro j d v s hj hd;rw[Lz6]at hj;cases hx:l[j]? with
  |none=>rw[hx]at hj;cases hj
  |some g=>
   rw[hx]at hj;simp only[Option.map_some,Option.some.injEq,gdv,Prod.mk.injEq]at hj;have hjl:j<ops.size:=by
    have:=(Lz0.1 hx).1;have:=X.len;omega
   have ho:ops[j]? = some ops[j]:=Array.getElem?_eq_getElem hjl;have:=(hdst j _ g ho hx).1;rw[hj.1,hd]at this;cases hod:(ops[j]).dst with
   |none=>rw[hod]at this;cases this
   |some sn=>
    rw[hod]at this;exact⟨_,sn,ho,hod,by simpa using this.symm⟩
 have hes:∀(j:Nat),(ancs P ops.toList)[j]? = some true→∃o,ops[j]? = some o∧anchor P o.op=true:=by
  intro j hj;unfold ancs at hj;rw[Lz6,LzA]at hj;cases ho:ops[j]? with
  |none=>rw[ho]at hj;cases hj
  |some o=>rw[ho]at hj;exact⟨o,rfl,by simpa using hj⟩
 have hes':∀(j:Nat) (o:Oper),ops[j]? = some o→(ancs P ops.toList)[j]? = some (anchor P o.op):=by
  intro j o ho;unfold ancs;rw[Lz6,LzA,ho];rfl
 have hhid:∀(i m:Nat) (om:Oper),ops[m]? = some om→(m∈yz (befs ops.toList) i 0 ops.toList↔(mkOp om.op&&bef (befs ops.toList) m i)=false):=by
  intro i m om hom;rw[ve]
  constructor
  ·rintro⟨j,o,h1,h2,h3⟩
   rw[Nat.zero_add]at h2 h3;subst h2;rw[LzA]at h1;cases hom.symm.trans h1;exact h3
  ·intro hq;exact⟨m,om,by rw[LzA];exact hom,by omega,by rw[Nat.zero_add];exact hq⟩
 have hhidlt:∀(i m:Nat),m∈yz (befs ops.toList) i 0 ops.toList→m<ops.size:=by
  intro i m hm;rw[ve]at hm;obtain⟨j,o,h1,h2,_⟩:=hm;rw[LzA]at h1;have:=(Lz7.1 h1).1;omega
 have hFG:∀(j:Nat) (o:Oper) (g:GE) (Hk:AHeap) (m:Nat),ops[j]? = some o→l[j]? = some g→mkOp o.op=false→anchor P o.op=true→(h0::hsG l)[cmG l j]? = some Hk→m∈yz (befs ops.toList) j 0 ops.toList→
   FG n0 l (cmG l j+1) g.ha m=FG n0 l (cmG l j) Hk m:=by
  intro j o g Hk m ho hg hm ha hHk hmem;have hmN:=hhidlt j m hmem;obtain⟨h',k1,k2,k3,k4⟩:=X.anchor ho hg hm ha;have hjN:j<ops.size:=(Lz7.1 ho).1;obtain⟨Hk',hHk',Sp⟩:=hspc j (by omega)
  cases hHk.symm.trans hHk';have hhb:=(X.step j g hg).2.1;have hgm:g.ha.t.get (nm n0 m)=if decide (m<j)=true then FG n0 l (cmG l j) Hk m else none:=by
   rw[(k3 m hmem).1,hhb];exact Sp.res m hmN
  show (if cmG l j+1≤cmG l m then obG n0 l m else g.ha.t.get (nm n0 m))=if cmG l j≤cmG l m then obG n0 l m else Hk.t.get (nm n0 m)
  rcases Nat.lt_trichotomy m j with hmj|hmj|hmj
  ·have hle:cmG l m≤cmG l j:=xS _ 0 fun k _ hk=>by simp only[decide_eq_true_eq]at hk ⊢;omega
   rw[if_neg (by omega),hgm,if_pos (by simpa using hmj)]
  ·subst hmj;rw[if_neg (by omega),hgm,if_neg (by simp),if_pos (LzB _),X.ob ho hg,hm]
   rfl
  ·have hle:cmG l j+1≤cmG l m:=by
    have h1:cmG l (j+1)=cmG l j+1:=by
     refine ze3 _ 0 j ?_ (by simp) (by simp) (fun k hk=>by rw[Nat.zero_add]at hk;simp only[decide_eq_decide];omega)
     rw[X.es,hes' j o ho,ha]
    have h2:cmG l (j+1)≤cmG l m:=xS _ 0 fun k _ hk=>by simp only[decide_eq_true_eq]at hk ⊢;omega
    omega
   rw[if_pos hle,if_pos (by omega)]
 have FGu:∀(k:Nat) (Hk:AHeap) (m:Nat),m<ops.size→(h0::hsG l)[k]? = some Hk→(∀(j:Nat) (oj:Oper),ops[j]? = some oj→anchor P oj.op=true→cmG l j<k→m∈yz (befs ops.toList) j 0 ops.toList)→FG n0 l k Hk m=obG n0 l m:=by
  intro k
  induction k with
  |zero=>intro Hk m _ _ _;exact if_pos (Nat.zero_le _)
  |succ k ih=>
   intro Hk m hmN hHk hall;rw[List.getElem?_cons_succ]at hHk;obtain⟨j,g,k1,k2,k3,k4⟩:=zdz l k Hk hHk;have hjN:j<ops.size:=by rw[←X.len];exact(Lz0.1 k1).1
   have ho:ops[j]? = some ops[j]:=Array.getElem?_eq_getElem hjN;obtain⟨g',hg',hd⟩:=X.ent j _ ho;cases k1.symm.trans hg';have ha:anchor P ops[j].op=true:=by rw[hd]at k2;exact k2
   have hm:mkOp ops[j].op=false:=by
    cases hm:mkOp ops[j].op with
    |false=>rfl
    |true=>rw[wI hm]at ha;cases ha
   obtain⟨Hk',hHk',_⟩:=hspc j (by omega)
   have:=hFG j _ g Hk' m ho k1 hm ha hHk' (hall j _ ho ha (by omega))
   rw[k3,k4]at this;rw[this];rw[k3]at hHk';exact ih Hk' m hmN hHk' fun j oj hoj haj hlt=>hall j oj hoj haj (by omega)
 have FGn:∀(k:Nat) (Hk:AHeap) (m:Nat) (om:Oper),ops[m]? = some om→mkOp om.op=false→(h0::hsG l)[k]? = some Hk→FG n0 l k Hk m=none:=by
  intro k Hk m om hom hmk hHk;have hmN:m<ops.size:=(Lz7.1 hom).1;obtain⟨g,hg,_⟩:=X.ent m om hom;rw[FGu k Hk m hmN hHk fun j oj _ _ _=>(hhid j m om hom).2 (by rw[hmk];rfl),X.ob hom hg,hmk]
  rfl
 have hkNone:∀(k:Nat) (Hk:AHeap) (m:Nat),m<ops.size→(h0::hsG l)[k]? = some Hk→k≤cmG l m→Hk.t.get (nm n0 m)=none:=by
  intro k Hk m hmN hHk hle;cases k with
  |zero=>simp only[List.getElem?_cons_zero,Option.some.injEq]at hHk;subst hHk;exact X.fresh m hmN
  |succ k=>
   rw[List.getElem?_cons_succ]at hHk;obtain⟨j,g,k1,k2,k3,k4⟩:=zdz l k Hk hHk;have hjN:j<ops.size:=by rw[←X.len];exact(Lz0.1 k1).1
   obtain⟨Hk',_,Sp⟩:=hspc (j+1) (by omega)
   rw[zdB l h0 j g k1,k4]at Sp;have hmj:¬m<j+1:=fun hh=>by
    have:cmG l m≤cmG l j:=xS _ 0 fun q _ hq=>by simp only[decide_eq_true_eq]at hq ⊢;omega
    omega
   rw[Sp.res m hmN,if_neg (show ¬decide (m<j+1)=true by simpa using hmj)]
 have finish:∀(listed:Array Bool) (φ:Phi) (a:Act) (w:World) (Hk H:AHeap),(∀i,i<ops.size→lst listed i=true)→Ext n0 φ0 φ→
   (h0::hsG l)[ce (lst listed) 0 (ancs P ops.toList)]? = some Hk→Spc n0 ops.size l (lst listed) (ce (lst listed) 0 (ancs P ops.toList)) Hk H→HRel w0 S φ H w→n0+ops.size≤H.n.toNat→
   TRel φ nt H.n.toNat (frL (lst listed) 0 (l.map gdv) t) a.tmps→a.defers=a0.defers→Q .normal a w:=by
  intro listed φ a w Hk H hall hE hH Sp HR hn T hdf;have hce:ce (lst listed) 0 (ancs P ops.toList)=cmG l ops.size:=by
   rw[hcmE];refine wo _ 0 fun j hj=>?_
   obtain⟨o,ho,_⟩:=hes j hj;have:=(Lz7.1 ho).1;rw[Nat.zero_add,hall j this]
   simpa using this
  rw[hce]at hH Sp;obtain⟨Hk',hHk',Sp'⟩:=hspc ops.size (LzB _);cases hH.symm.trans hHk';rw[←X.fin]at Sp';have hg:∀b,h2.t.get b=H.t.get b:=by
   intro b;rcases zcm n0 ops.size b with hb|⟨m,hm,rfl⟩
   ·rw[Sp.old b hb,Sp'.old b hb]
   ·rw[Sp.res m hm,Sp'.res m hm,if_pos (hall m hm),if_pos (show decide (m<ops.size)=true by simpa using hm)]
  have hnn:h2.n.toNat=H.n.toNat:=by rw[Sp.n,Sp'.n]
  refine hQ a w ⟨φ,by rw[hn0];exact hE,HR.of_get hg hnn,?_,hdf,by rw[hn0,hnn];omega⟩
  rw[hnn,X.fr,←kU (L:=lst listed) (l.map gdv) 0 t (fun j hj=>by rw[Nat.zero_add];exact hall j (by simpa[X.len] using hj))]
  exact T
 intro fuel
 induction fuel with
 |zero=>
  intro listed φ a w Hk H hsz hu hC hE hH Sp HR hn T hdf hbad;have hall:∀i,i<ops.size→lst listed i=true:=fun i hi=>zgN (by omega) (by omega)
  have hnil:Region.ready .any ops listed=[]:=by
   cases hr:Region.ready .any ops listed with
   |nil=>rfl
   |cons i r=>
    obtain⟨o,ho,h1,h2,h3⟩:=mem_ready (ops:=ops) (listed:=listed) (i:=i) (by rw[hr];simp)
    rw[hall i (by omega)]at h2
    cases h2
  exact⟨hnil,finish listed φ a w Hk H hall hE hH Sp HR hn T hdf⟩
 |succ fuel ih=>
  intro listed φ a w Hk H hsz hu hC hE hH Sp HR hn T hdf hbad;refine⟨fun hnil=>finish listed φ a w Hk H (zcN (ops:=ops) hsz (fun i o e ho he hb=>hA' i o ho e he hb) hnil) hE hH Sp HR hn T hdf,fun i hi=>?_⟩
  obtain⟨o,ho,hlt,hli,hR⟩:=mem_ready hi;have hiN:i<ops.size:=(Lz7.1 ho).1;obtain⟨g,hj,hgd⟩:=X.ent i o ho;obtain⟨htr,hhb,_⟩:=X.step i g hj;obtain⟨hnosel,hedge⟩:=hA i o ho;obtain⟨hdd,hdin⟩:=hdst i o g ho hj;generalize hk:ce (lst listed) 0 (ancs P ops.toList)=k at hH Sp;have before:∀j,bef (befs ops.toList) j i=true→lst listed j=true:=fun j hb=>x4 hb hC hR
  have after:∀j,bef (befs ops.toList) i j=true→lst listed j=false:=by
   intro j hb;cases hj:lst listed j with
   |false=>rfl
   |true=>
    have:=x4 hb hC (hC j hj);rw[hli]at this;cases this
  have hCi:Clo ops (fun k=>decide (k<i)):=by
   intro j hj o' e ho' he hb;have:=hA' j o' ho' e he hb;simp only[decide_eq_true_eq]at hj ⊢;omega
  have hRi:Rdy ops (fun k=>decide (k<i)) i:=by
   intro o' e ho' he hb;have:=hA' i o' ho' e he hb
   simpa using this
  have hlk:g.d.looks=(o.looksAt ops).map bn:=by rw[hgd]
  rw[hlk]at htr;have hagree:∀s∈(o.looksAt ops).map bn,(frL (fun k=>decide (k<i)) 0 (l.map gdv) t).get s=(frL (lst listed) 0 (l.map gdv) t).get s:=by
   intro s hs';obtain⟨sn,hsn,rfl⟩:=List.mem_map.1 hs';rw[ur,ur]
   congr 1
   refine kM _ 0 fun j d v hjd hds=>?_
   obtain⟨oj,sj,hoj,hsj,hbe⟩:=hdv j d v _ hjd hds;have:=uz hbe;subst this;rw[Nat.zero_add];rcases Nat.lt_trichotomy j i with hji|hji|hji
   ·rcases hord j i oj o hoj ho hji with hb|⟨hap,_⟩
    ·rw[before j hb];simpa using hji
    ·exact absurd hsn ((Oper.apart_spec hap).1 _ hsj)
   ·subst hji;rw[hli];simp
   ·rcases hord i j o oj ho hoj hji with hb|⟨hap,_⟩
    ·rw[after j hb];simp;omega
    ·exact absurd hsn ((Oper.apart_spec hap).2.2 _ hsj)
  have htrg:∀s,g.tr.get s=(frL (lst listed) 0 (l.map gdv) t).get s∧s∈(o.looksAt ops).map bn∨g.tr.get s=none:=by
   intro s
   classical
   have:=wS (frL (fun k=>decide (k<i)) 0 (l.map gdv) t) s ((o.looksAt ops).map bn)
   rw[←htr]at this;by_cases hm:s∈(o.looksAt ops).map bn
   ·rw[if_pos hm,hagree s hm]at this;exact .inl ⟨this,hm⟩
   ·rw[if_neg hm]at this;exact .inr this
  have Tr':TRel φ nt H.n.toNat g.tr (wA φ nt g.tr):=by
   refine ze0 (fun j hj=>?_) (fun s v hv=>?_)
   ·rcases htrg (bn j) with⟨h1,_⟩|h1
    ·rw[h1];exact T.out j hj
    ·exact h1
   ·rcases htrg s with⟨h1,_⟩|h1
    ·rw[h1]at hv;exact T.wf s v hv
    ·rw[h1]at hv;cases hv
  have htmps:∀sn∈o.looksAt ops,a.tmps[sn]? = (wA φ nt g.tr)[sn]?:=by
   intro sn hsn;by_cases hlt':sn<nt
   ·rw[T.get sn hlt',Tr'.get sn hlt'];have hm:bn sn∈(o.looksAt ops).map bn:=List.mem_map.2 ⟨sn,hsn,rfl⟩;rw[←hagree _ hm]
    classical
    have:=wS (frL (fun k=>decide (k<i)) 0 (l.map gdv) t) (bn sn) ((o.looksAt ops).map bn)
    rw[←htr,if_pos hm]at this;rw[this]
   ·have e1:a.tmps[sn]? = none:=Array.getElem?_eq_none (by rw[T.size];exact Nat.le_of_not_lt hlt')
    have e2:(wA φ nt g.tr)[sn]? = none:=Array.getElem?_eq_none (by rw[Tr'.size];exact Nat.le_of_not_lt hlt')
    rw[e1,e2]
  have hexec:execOp a.eval o=execOp ({ tmps:=wA φ nt g.tr,defers:=[] }:Act).eval o:=by
   refine execOp_congr o hnosel fun x hx=>?_
   cases x with
   |tmp sn=>
    have:=htmps sn (List.mem_append_left _ (List.mem_filterMap.2 ⟨.tmp sn,by simpa using hx,rfl⟩))
    simp only[Act.eval,Array.getD_eq_getD_getElem?,this]
   |_=>rfl
  have hwant:Region.wanted o (yielded ops a.tmps)=Region.wanted o (yielded ops (wA φ nt g.tr)):=by
   unfold Region.wanted;cases hg:o.guard with
   |none=>rfl
   |some gb=>
    obtain⟨q,b⟩:=gb;simp only;have:yielded ops a.tmps q=yielded ops (wA φ nt g.tr) q:=by
     unfold yielded;cases hd:(ops[q]?).bind (·.dst) with
     |none=>rfl
     |some sn=>
      have:=htmps sn (List.mem_append_right _ (by simp[hg,hd]))
      simp only[Option.bind_some,this]
    rw[this]
  have hC':Clo ops (lst (listed.setIfInBounds i true)):=by
   intro j hj o' e ho' he hb;rw[wx hlt]at hj ⊢;rw[Bool.or_eq_true]
   right
   simp only[Bool.or_eq_true,decide_eq_true_eq]at hj;rcases hj with hj|hj
   ·subst hj;exact hR o' e ho' he hb
   ·exact hC j hj o' e ho' he hb
  have next:∀(φ2:Phi) (w2:World) (Hk' H':AHeap),ExtW H.n.toNat φ φ2→Ext n0 φ φ2→H.n.toNat≤H'.n.toNat→
    (h0::hsG l)[ce (lst (listed.setIfInBounds i true)) 0 (ancs P ops.toList)]? = some Hk'→Spc n0 ops.size l (lst (listed.setIfInBounds i true)) (ce (lst (listed.setIfInBounds i true)) 0 (ancs P ops.toList)) Hk' H'→
    HRel w0 S φ2 H' w2→wfA φ2 H'.n.toNat g.v→(∀m,m<ops.size→lst (listed.setIfInBounds i true) m=false→(φ2 (nm n0 m)).ok=false)→
    wpAnyIn (FR ro) 0 P .any ops Q fuel (listed.setIfInBounds i true) (a.put o.dst (zp φ2 g.v)) w2:=by
   intro φ2 w2 Hk' H' he he0 hle hH' Sp' H2 hv hbad';refine ih _ φ2 _ w2 Hk' H' (by simpa using hsz) ?_ hC' (hE.trans he0 (LzB _)) hH' Sp' H2 (Nat.le_trans hn hle) ?_ ((put_defers _ _ _).trans hdf) hbad'
   ·have:=zjg hlt hli;omega
   ·refine TRel.of_get (TRel.put (T.extW he hle) hv o.dst hdin) fun s=>?_
    classical
    rw[zc0,ur];have hri:(l.map gdv)[i]? = some (o.dst.map bn,g.v):=by
     rw[Lz6,hj];simp only[Option.map_some,gdv];rw[←hdd]
    by_cases hd:o.dst.map bn=some s
    ·rw[if_pos hd];rw[hd]at hri;rw[zfS (l.map gdv) 0 i g.v hri (by rw[Nat.zero_add,wx hlt];simp) (fun j d u hij hjd hds=>?_)]
     ·rfl
     ·rw[Nat.zero_add,wx hlt];obtain⟨oj,sj,hoj,hsj,hbe⟩:=hdv j d u _ hjd hds;have hne:¬j=i:=by omega
      simp only[hne,decide_false,Bool.false_or];rcases hord i j o oj ho hoj hij with hb|⟨hap,_⟩
      ·exact after j hb
      ·cases hod:o.dst with
       |none=>rw[hod]at hd;cases hd
       |some so=>
        rw[hod]at hd;have:so=sj:=uz (by rw[hbe];simpa using hd)
        subst this;exact absurd hsj ((Oper.apart_spec hap).2.1 _ hod)
    ·rw[if_neg hd,ur]
     congr 1
     refine kM _ 0 fun j d u hjd hds=>?_
     rw[Nat.zero_add,wx hlt];have hne:¬j=i:=fun hh=>by
      subst hh;rw[hri]at hjd;cases hjd;exact hd hds
     simp[hne]
  have lset:∀m,lst (listed.setIfInBounds i true) m=(decide (m=i)||lst listed m):=wx hlt
  have badK:∀(φ2:Phi),(∀m,m<ops.size→m≠i→lst listed m=false→φ2 (nm n0 m)=φ (nm n0 m))→∀m,m<ops.size→lst (listed.setIfInBounds i true) m=false→(φ2 (nm n0 m)).ok=false:=by
   intro φ2 hsame m hm hl;rw[lset,Bool.or_eq_false_iff]at hl;rw[hsame m hm (by simpa using hl.1) hl.2]
   exact hbad m hm hl.2
  unfold wpOpIn;simp only[ho];obtain⟨Hi,hHi,Spi⟩:=hspc i (by omega)
  rw[←hhb]at Spi;have partOf:∀(t':Tr AObj) (n':BN),(∀b o',(b.toNat<n0∨n0+ops.size≤b.toNat)→t'.get b=some o'→Hk.t.get b=some o')→
    (∀m,m<ops.size→m∉yz (befs ops.toList) i 0 ops.toList→∀o',t'.get (nm n0 m)=some o'→FG n0 l k Hk m=some o')→(∀m∈yz (befs ops.toList) i 0 ops.toList,t'.get (nm n0 m)=none)→Sbh ⟨n',t'⟩ H:=by
   intro t' n' h1 h2 h3 b o' hb;rcases zcm n0 ops.size b with hb'|⟨m,hm,rfl⟩
   ·rw[Sp.old b hb'];exact h1 b o' hb' hb
   ·by_cases hmem:m∈yz (befs ops.toList) i 0 ops.toList
    ·have hb:t'.get (nm n0 m)=some o':=hb;rw[h3 m hmem]at hb;cases hb
    ·have hq:(mkOp ops[m].op&&bef (befs ops.toList) m i)=true:=by
      cases hq:mkOp ops[m].op&&bef (befs ops.toList) m i with
      |true=>rfl
      |false=>exact absurd ((hhid i m _ (Array.getElem?_eq_getElem hm)).2 hq) hmem
     rw[Sp.res m hm,if_pos (before m (and2 hq).2)];exact h2 m hm hmem o' hb
  have hself:Sbh ⟨g.hb.n,delH n0 (yz (befs ops.toList) i 0 ops.toList) g.hb.t⟩ H∨cmG l i≠k:=by
   by_cases hki:cmG l i=k
   ·left
    rw[hki]at hHi Spi;cases hH.symm.trans hHi;refine partOf _ _ (fun b o' hb hget=>?_) (fun m hmN hmem o' hget=>?_) (fun m hmem=>zbA _ _ m hmem)
    ·rw[vz _ _ b fun j hj hh=>by have:=hhidlt i j hj;rw[hh,yq]at hb;omega]at hget
     rw[←Spi.old b hb];exact hget
    ·rw[vz _ _ _ fun j hj hh=>hmem (by rw[vr hh];exact hj),Spi.res m hmN]at hget
     by_cases hmi:decide (m<i)=true
     ·rw[if_pos hmi]at hget;exact hget
     ·rw[if_neg hmi]at hget;cases hget
   ·exact .inr hki
  have hnE:cmG l i=k→g.hb.n.toNat=H.n.toNat:=by
   intro hki;rw[hki]at hHi;cases hH.symm.trans hHi;rw[Spi.n,Sp.n]
  have ceSame:anchor P o.op=false→ce (lst (listed.setIfInBounds i true)) 0 (ancs P ops.toList)=k:=by
   intro ha;rw[←hk];refine wo _ 0 fun j hj=>?_
   rw[Nat.zero_add,lset];obtain⟨oj,hoj,haj⟩:=hes j hj;have:j≠i:=fun hh=>by subst hh;cases ho.symm.trans hoj;rw[ha]at haj;cases haj
   simp[this]
  have spcSame:anchor P o.op=false→FG n0 l k Hk i=none→Spc n0 ops.size l (lst (listed.setIfInBounds i true)) k Hk H:=by
   intro ha hnone;refine⟨Sp.n,Sp.old,fun m hmN=>?_⟩
   rw[Sp.res m hmN,lset];by_cases hmi:m=i
   ·subst hmi;rw[if_neg (by rw[hli];simp),if_pos (by simp)]
    exact hnone.symm
   ·simp only[hmi,decide_false,Bool.false_or]
  rcases zkN P o.op with hm|⟨hm,ha⟩|⟨hm,ha,hq⟩
  ·
   have ha:=wI (P:=P) hm;obtain⟨k1,k2,h',k3,k4⟩:=X.made ho hj hm;have hob:FG n0 l k Hk i=obG n0 l i:=by
    refine FGu k Hk i hiN hH fun j oj hoj haj hlt=>(hhid j i o ho).2 ?_
    cases hb:bef (befs ops.toList) i j with
    |false=>simp
    |true=>
     have hlj:=after j hb;exfalso;have hle:ce (lst listed) 0 (ancs P ops.toList)≤ce (fun q=>decide (q<j)) 0 (ancs P ops.toList):=by
      refine xS _ 0 fun q hq hlq=>?_
      rw[Nat.zero_add]at hlq ⊢;obtain⟨oq,hoq,haq⟩:=hes q hq;rcases Nat.lt_trichotomy q j with hqj|hqj|hqj
      ·simpa using hqj
      ·subst hqj;rw[hlj]at hlq;cases hlq
      ·rcases hord j q oj oq hoj hoq hqj with hb'|⟨_,hc|hc⟩
       ·have:=x4 hb' hC (hC q hlq);rw[hlj]at this;cases this
       ·rw[haj]at hc;cases hc
       ·rw[haq]at hc;cases hc
     rw[hk,←hcmE]at hle;omega
   have hHnone:H.t.get (nm n0 i)=none:=by rw[Sp.res i hiN,if_neg (by rw[hli];simp)]
   have hnmlt:(nm n0 i).toNat<H.n.toNat:=by rw[yq];omega
   rcases qB (a:={ tmps:=wA φ nt g.tr,defers:=[] }) k3 Tr' with⟨hw,hc⟩|⟨hw,hv,hh⟩
   ·rw[if_pos (by rw[hwant];exact hw)]
    obtain⟨obj,vf,hsh,hconc,hwf,howf⟩:=zhg (nt:=nt) hm hc;have e1:=hsh ⟨nm n0 i,g.hb.t⟩;rw[hc]at e1;simp only[Option.some.injEq,Prod.mk.injEq]at e1;obtain⟨ev,eh⟩:=e1;have hobj:obG n0 l i=some obj:=by
     rw[X.ob ho hj,hm];show g.ha.t.get (nm n0 i)=some obj;rw[←k4,eh];exact zw _ _ _
    refine zev C HR (ar:={ tmps:=wA φ nt g.tr,defers:=[] }) Tr' hexec (hsh H) ?_;intro φ1 w2 he H2 hv hle;obtain⟨HR2,he2⟩:=HR.rename H2 he (howf φ _ _ Tr') hnmlt (hbad i hiN hli) hHnone;have hcv:zp φ1 (.s (.one (vf H.n)))=zp (upd φ (nm n0 i) (φ1 H.n)) g.v:=by
     rw[ev];exact hconc _ _ _ _ (zn _ _ _).symm
    rw[hcv];refine next _ w2 Hk (H.put (nm n0 i) obj) he2 (fun b hb=>?_) (LzB _) (by rw[ceSame ha];exact hH) ?_ HR2 ?_ (badK _ fun m hmN hmi _=>?_)
    ·have:b≠nm n0 i:=fun hh=>by rw[hh,yq]at hb;omega
     simp[upd,this]
    ·rw[ceSame ha];refine⟨Sp.n,fun b hb=>?_,fun m hmN=>?_⟩
     ·show (H.t.set (nm n0 i) obj).get b=_;rw[zo _ _ _ _ (fun hh=>by rw[hh,yq]at hb;omega)]
      exact Sp.old b hb
     ·show (H.t.set (nm n0 i) obj).get (nm n0 m)=_;rw[lset];by_cases hmi:m=i
      ·subst hmi;rw[zw,if_pos (by simp)]
       exact(hob.trans hobj).symm
      ·rw[zo _ _ _ _ (fun hh=>hmi (vr hh)),Sp.res m hmN]
       simp only[hmi,decide_false,Bool.false_or]
    ·rw[ev];refine hwf _ _ _ ⟨hnmlt,?_⟩;rw[zn];exact H2.okb H.n obj (by simp only[AHeap.new];exact zw _ _ _)
    ·have:nm n0 m≠nm n0 i:=fun hh=>hmi (vr hh)
     simp[upd,this]
   ·rw[if_neg (by rw[hwant,hw];simp)]
    have hnone:FG n0 l k Hk i=none:=by
     rw[hob,X.ob ho hj,hm];show g.ha.t.get (nm n0 i)=none;rw[←k4,hh];show g.hb.t.get (nm n0 i)=none;rw[Spi.res i hiN,if_neg (by simp)]
    have hn':=next φ w Hk H (Ext.refl _ _).w (Ext.refl _ _) (LzB _) (by rw[ceSame ha];exact hH) (by rw[ceSame ha];exact spcSame ha hnone) HR (by rw[hv];exact fun _ hv=>by cases hv) (badK φ fun _ _ _ _=>rfl)
    rw[hv]at hn';exact⟨fun f _=>trivial,hn'⟩
  ·
   have hki:cmG l i=k:=by
    rw[hcmE,←hk];refine (wo _ 0 fun j hj=>?_).symm
    obtain⟨oj,hoj,haj⟩:=hes j hj;rw[Nat.zero_add];rcases Nat.lt_trichotomy j i with hji|hji|hji
    ·rcases hord j i oj o hoj ho hji with hb|⟨_,hc|hc⟩
     ·rw[before j hb];simpa using hji
     ·rw[haj]at hc;cases hc
     ·rw[ha]at hc;cases hc
    ·subst hji;rw[hli];simp
    ·rcases hord i j o oj ho hoj hji with hb|⟨_,hc|hc⟩
     ·rw[after j hb];simp;omega
     ·rw[ha]at hc;cases hc
     ·rw[haj]at hc;cases hc
   have hsub:=hself.resolve_right (fun hh=>hh hki)
   have hEn:=hnE hki;obtain⟨h',k1,k2,k3,k4⟩:=X.anchor ho hj hm ha;have hce1:ce (lst (listed.setIfInBounds i true)) 0 (ancs P ops.toList)=k+1:=by
    rw[←hk];exact ze3 (L:=lst listed) (ancs P ops.toList) 0 i (by rw[hes' i o ho,ha]) (by rw[Nat.zero_add];exact hli) (by rw[lset];simp) (fun j hj=>by rw[Nat.zero_add]at hj;rw[lset];simp[hj])
   have hH1:(h0::hsG l)[k+1]? = some g.ha:=by
    rw[List.getElem?_cons_succ,←hki];exact zf1 l i g hj (by rw[hgd];exact ha)
   have HE:=HR.sub hsub hEn;have go:∀(φ2:Phi) (w2:World),Ext H.n.toNat φ φ2→HRel w (Desc φ ⟨g.hb.n,delH n0 (yz (befs ops.toList) i 0 ops.toList) g.hb.t⟩) φ2 h' w2→wfA φ2 h'.n.toNat g.v→H.n.toNat≤h'.n.toNat→
     wpAnyIn (FR ro) 0 P .any ops Q fuel (listed.setIfInBounds i true) (a.put o.dst (zp φ2 g.v)) w2:=by
    intro φ2 w2 he H2 hv hle;obtain⟨t',m1,m2⟩:=mixT (n0:=n0) H.t h'.t (yz (befs ops.toList) i 0 ops.toList);have HR2:HRel w0 S φ2 ⟨h'.n,t'⟩ w2:=by
     refine HR.join hsub hEn H2 he hle rfl fun b o' hb=>?_
     by_cases hmem:∃m∈yz (befs ops.toList) i 0 ops.toList,b=nm n0 m
     ·obtain⟨m,hmem,rfl⟩:=hmem
      right
      exact⟨by rw[←m1 m hmem];exact hb,zbA _ _ m hmem⟩
     ·left
      rw[←m2 b fun j hj hh=>hmem ⟨j,hj,hh⟩];exact hb
    refine next φ2 w2 g.ha ⟨h'.n,t'⟩ he.w (he.mono (by omega)) hle (by rw[hce1];exact hH1) ?_ HR2 hv (badK φ2 fun m hmN _ _=>he _ (by rw[yq];omega))
    rw[hce1];refine⟨by rw[k2],fun b hb=>?_,fun m hmN=>?_⟩
    ·have hb':∀j∈yz (befs ops.toList) i 0 ops.toList,b≠nm n0 j:=fun j hj hh=>by have:=hhidlt i j hj;rw[hh,yq]at hb;omega
     show t'.get b=_;rw[m2 b hb',k4 b hb']
    ·show t'.get (nm n0 m)=_;rw[lset];by_cases hmem:m∈yz (befs ops.toList) i 0 ops.toList
     ·have hfg:FG n0 l (k+1) g.ha m=FG n0 l k Hk m:=by
       have:=hFG i o g Hk m ho hj hm ha (by rw[hki];exact hH) hmem
       rwa [hki]at this
      rw[m1 m hmem,Sp.res m hmN];by_cases hmi:m=i
      ·subst hmi;rw[if_neg (by rw[hli];simp),if_pos (by simp)]
       exact(hfg.trans (FGn k Hk m o ho hm hH)).symm
      ·simp only[hmi,decide_false,Bool.false_or];by_cases hlm:lst listed m=true
       ·rw[if_pos hlm,if_pos hlm];exact hfg.symm
       ·rw[if_neg hlm,if_neg hlm]
     ·have hq:(mkOp ops[m].op&&bef (befs ops.toList) m i)=true:=by
       cases hq:mkOp ops[m].op&&bef (befs ops.toList) m i with
       |true=>rfl
       |false=>exact absurd ((hhid i m _ (Array.getElem?_eq_getElem hmN)).2 hq) hmem
      have hbm:=(and2 hq).2;have hmi:=hbef m i hbm;have hle':cmG l m≤cmG l i:=xS _ 0 fun q _ hq=>by simp only[decide_eq_true_eq]at hq ⊢;omega
      have hb':∀j∈yz (befs ops.toList) i 0 ops.toList,nm n0 m≠nm n0 j:=fun j hj hh=>hmem (by rw[vr hh];exact hj)
      rw[m2 _ hb',if_pos (by rw[before m hbm];simp),if_neg (by omega),k4 _ hb']
   have TrE:TRel φ nt (AHeap.n ⟨g.hb.n,delH n0 (yz (befs ops.toList) i 0 ops.toList) g.hb.t⟩).toNat g.tr (wA φ nt g.tr):=by
    show TRel φ nt g.hb.n.toNat g.tr _;rw[hEn];exact Tr'
   rcases qB (a:={ tmps:=wA φ nt g.tr,defers:=[] }) k1 Tr' with⟨hw,hc⟩|⟨hw,hv,hh⟩
   ·rw[if_pos (by rw[hwant];exact hw)]
    refine zev C HE (ar:={ tmps:=wA φ nt g.tr,defers:=[] }) TrE hexec hc ?_;intro φ2 w2 he H2 hv hle;exact go φ2 w2 (by rw[←hEn];exact he) H2 hv (by rw[←hEn];exact hle)
   ·rw[if_neg (by rw[hwant,hw];simp)]
    have:=go φ w (Ext.refl _ _) (by rw[hh];exact HE) (by rw[hv];exact fun _ hv=>by cases hv) (by rw[hh];exact Nat.le_of_eq hEn.symm)
    rw[hv]at this;exact⟨fun f _=>trivial,this⟩
  ·
   have hex:∃X':AHeap,Sbh X' H∧∃h',xj call (yL P nt ops o) g.tr X'=some (g.v,h'):=by
    obtain⟨_,h',he⟩:=X.quiet ho hj hm ha;have hlo:ce (fun q=>bef (befs ops.toList) q i) 0 (ancs P ops.toList)≤k:=by
     rw[←hk];exact xS _ 0 fun j _ hb=>by rw[Nat.zero_add]at hb ⊢;exact before j hb
    have hhi:k≤ce (fun q=>!bef (befs ops.toList) i q) 0 (ancs P ops.toList):=by
     rw[←hk];refine xS _ 0 fun j _ hb=>?_
     rw[Nat.zero_add]at hb ⊢;cases hbb:bef (befs ops.toList) i j with
     |false=>rfl
     |true=>rw[after j hbb]at hb;cases hb
    have hlo0:ce (fun q=>bef (befs ops.toList) q i) 0 (ancs P ops.toList)≤cmG l i:=by
     rw[hcmE];exact xS _ 0 fun j _ hb=>by rw[Nat.zero_add]at hb ⊢;exact x4 hb hCi hRi
    have hhi0:cmG l i≤ce (fun q=>!bef (befs ops.toList) i q) 0 (ancs P ops.toList):=by
     rw[hcmE];refine xS _ 0 fun j _ hb=>?_
     rw[Nat.zero_add]at hb ⊢;cases hbb:bef (befs ops.toList) i j with
     |false=>rfl
     |true=>
      have:=x4 hbb hCi (hCi j hb);simp at this
    rcases zbE l hch i g hj (by rw[hgd];exact ha) (by rw[hgd];exact hm) with heq|hall
    ·rw[hgd]at heq;simp only at heq;exact⟨_,hself.resolve_right (fun hh=>hh (by omega)),h',he⟩
    ·rw[hgd]at hall;obtain⟨h'',he''⟩:=hall k Hk hlo hhi hH;refine⟨_,partOf _ _ (fun b o' hb hget=>?_) (fun m hmN hmem o' hget=>?_) (fun m hmem=>zbA _ _ m hmem),h'',he''⟩
     ·rw[vz _ _ b fun j hj hh=>by have:=hhidlt i j hj;rw[hh,yq]at hb;omega]at hget
      rcases zbu (mksG n0 0 0 l) Hk.t b (n0:=n0) (k:=k) with h1|⟨x,hx,_,h2,_⟩
      ·rw[←h1];exact hget
      ·obtain⟨m,q1,⟨gm,q2,_⟩,_⟩:=zdm l 0 0 x X.mkeff hx;have:m<ops.size:=by rw[←X.len];exact(Lz0.1 q2).1
       rw[h2,yq,q1]at hb;omega
     ·rw[vz _ _ _ fun j hj hh=>hmem (by rw[vr hh];exact hj)]at hget
      rcases zbu (mksG n0 0 0 l) Hk.t (nm n0 m) (n0:=n0) (k:=k) with h1|⟨x,hx,hkx,h2,h3⟩
      ·rw[h1]at hget;by_cases hle:k≤cmG l m
       ·rw[hkNone k Hk m hmN hH hle]at hget;cases hget
       ·show (if k≤cmG l m then _ else _)=_
        rw[if_neg hle];exact hget
      ·obtain⟨m',q1,⟨gm,q2,q3,q4⟩,q5⟩:=zdm l 0 0 x X.mkeff hx;rw[Nat.zero_add]at q1 q4 q5;have hmm:m=m':=by rw[q1]at h2;exact vr h2
       subst hmm;rw[hget]at h3;cases h3;show (if k≤cmG l m then _ else _)=_
       rw[if_pos (by omega)]
       unfold obG;rw[q2];simp only[q3,cond_true];exact q4
   obtain⟨X',hsub,h',he⟩:=hex;have hnone:=FGn k Hk i o ho hm hH;rcases qB (a:={ tmps:=wA φ nt g.tr,defers:=[] }) he Tr' with⟨hw,hc⟩|⟨hw,hv,hh⟩
   ·rw[if_pos (by rw[hwant];exact hw)]
    refine zev C HR (ar:={ tmps:=wA φ nt g.tr,defers:=[] }) Tr' hexec (zm5 P o.op hq _ _ _ _ _ _ hc hsub) ?_;intro φ2 w2 he2 H2 hv hle;exact next φ2 w2 Hk H he2.w (he2.mono (by omega)) hle (by rw[ceSame ha];exact hH) (by rw[ceSame ha];exact spcSame ha hnone) H2 hv (badK φ2 fun m hmN _ _=>he2 _ (by rw[yq];omega))
   ·rw[if_neg (by rw[hwant,hw];simp)]
    have:=next φ w Hk H (Ext.refl _ _).w (Ext.refl _ _) (LzB _) (by rw[ceSame ha];exact hH) (by rw[ceSame ha];exact spcSame ha hnone) HR (by rw[hv];exact fun _ hv=>by cases hv) (badK φ fun _ _ _ _=>rfl)
    rw[hv]at this;exact⟨fun f _=>trivial,this⟩
end
end Go.CE
end
section
namespace Go.CE
open Go.RowKit
section
variable {P:Program} {w0:World} {S:Nat→Prop} {nt:Nat} {call:zh}
theorem zmO(C:y8 P call)(id:Nat)(ops:Array Oper):vF P w0 S nt call (.region id ops true):=by
 intro f fn round ro φ s s2 e a w Q hc R hr hQ;have hc:(bif P.follows .mixedOrders&&k8 P ops (befs ops.toList) then zhK (zak P nt ops) else bif P.follows .mixedOrders&&uu P ops (befs ops.toList) then zhJ (vh P nt ops) else badF) call f fn round s=some (e,s2):=hc
 cases hb:(P.follows .mixedOrders&&k8 P ops (befs ops.toList)) with
 |false=>
  rw[hb]at hc;simp only[cond_false]at hc;cases hb2:(P.follows .mixedOrders&&uu P ops (befs ops.toList)) with
  |false=>rw[hb2]at hc;cases hc
  |true=>
   rw[hb2]at hc;obtain⟨hm,hok⟩:=and2 hb2;obtain⟨t,d,h⟩:=s;simp only[cond_true,zhJ]at hc;have hlen:(vh P nt ops).length=ops.size:=by
    have key:∀(os:List Oper) (i:Nat),(y2 P nt ops (befs ops.toList) (ancs P ops.toList) i os).length=os.length:=by
     intro os
     induction os with
     |nil=>intro i;rfl
     |cons o os ih=>intro i;simp only[y2,List.length_cons,ih]
    unfold vh;rw[key,Array.length_toList]
   rw[hlen]at hc;cases hev:evG call h.n.toNat 0 (vh P nt ops) t ⟨bn (Nat.add h.n.toNat ops.size),h.t⟩ with
   |none=>rw[hev]at hc;cases hc
   |some p=>
    obtain⟨l,t2,h2⟩:=p;rw[hev]at hc;simp only at hc;cases hch:vA call h.n.toNat (mksG h.n.toNat 0 0 l) (⟨bn (Nat.add h.n.toNat ops.size),h.t⟩::hsG l) l with
    |false=>rw[hch]at hc;cases hc
    |true=>
     rw[hch]at hc;cases hc;have hkn:(bn (Nat.add h.n.toNat ops.size)).toNat=h.n.toNat+ops.size:=zD _;have X:=zqy (P:=P) hev (fun m hm=>by
      show h.t.get (nm h.n.toNat m)=none;cases hx:h.t.get (nm h.n.toNat m) with
      |none=>rfl
      |some o=>have:=R.H.keys _ _ hx;rw[yq]at this;exact absurd this (by show ¬h.n.toNat+m<h.n.toNat;omega))
     refine wpIn_region_any hm ?_;have hz:∀i,lst (Array.replicate ops.size false) i=false:=by
      intro i;unfold lst;rw[Array.getD_eq_getD_getElem?,Array.getElem?_replicate];split<;>rfl
     have hzf:lst (Array.replicate ops.size false)=fun _=>false:=funext hz
     have hfr:∀(r:List (Option BN×AVal)) (i:Nat) (t:Tr AVal),frL (fun _=>false) i r t=t:=by
      intro r
      induction r with
      |nil=>intro i t;rfl
      |cons p r ih=>intro i t;obtain⟨d,v⟩:=p;unfold frL;exact ih _ _
     have he:=zcv φ h.n.toNat ops.size;refine ziX (hh0:=h) (φ0:=φ) C hok X hch rfl hkn (fun a2 w2 hn=>hQ a2 w2 (qu R hn)) ops.size (Array.replicate ops.size false) (zcw φ h.n.toNat ops.size) a _ ⟨bn (Nat.add h.n.toNat ops.size),h.t⟩ ⟨bn (Nat.add h.n.toNat ops.size),h.t⟩
      (by simp) (by unfold unl;simp) ?_ he ?_ ?_ (R.H.drew.keep ops.size) (by rw[hkn];omega) ?_ rfl (fun m hm _=>zkO φ _ _ m hm)
     ·intro i hi;rw[hz]at hi;cases hi
     ·rw[hzf,zaH];rfl
     ·rw[hzf,zaH];exact⟨rfl,fun _ _=>rfl,fun m hm=>by rw[if_neg (by simp)];exact X.fresh m hm⟩
     ·rw[hzf,hfr,hkn];exact R.T.ext he (by show h.n.toNat≤_;omega)
 |true=>
  rw[hb]at hc;obtain⟨hm,hok⟩:=and2 hb;obtain⟨t,d,h⟩:=s;simp only[cond_true,zhK]at hc;cases hev:evD call (zak P nt ops) t h with
  |none=>rw[hev]at hc;cases hc
  |some p=>
   obtain⟨l,t2,hs⟩:=p;rw[hev]at hc;simp only at hc;cases hch:vB call hs l with
   |false=>rw[hch]at hc;cases hc
   |true=>
    rw[hch]at hc;cases hc;refine wpIn_region_any hm ?_;have hz:∀i,lst (Array.replicate ops.size false) i=false:=by
     intro i;unfold lst;rw[Array.getD_eq_getD_getElem?,Array.getElem?_replicate];split<;>rfl
    have hzf:lst (Array.replicate ops.size false)=fun _=>false:=funext hz
    have hce:∀(es:List Bool) (i:Nat),ce (fun _=>false) i es=0:=by
     intro es
     induction es with
     |nil=>intro i;rfl
     |cons e es ih=>intro i;unfold ce;simp[ih]
    have hfr:∀(r:List (Option BN×AVal)) (i:Nat) (t:Tr AVal),frL (fun _=>false) i r t=t:=by
     intro r
     induction r with
     |nil=>intro i t;rfl
     |cons p r ih=>intro i t;obtain⟨d,v⟩:=p;unfold frL;exact ih _ _
    obtain⟨_,g2,_,_,_⟩:=zdH call _ _ _ _ _ _ hev;refine zlo C hok hev hch (fun a2 w2 hn=>hQ a2 w2 (qu R hn)) ops.size (Array.replicate ops.size false) φ a _ h (by simp) (by unfold unl;simp) ?_ (Ext.refl _ _) ?_ R.H.drew (LzB _) ?_ rfl
    ·intro i hi;rw[hz]at hi;cases hi
    ·rw[hzf,hce];exact g2
    ·rw[hzf,hfr];exact R.T
end
end Go.CE
end
section
namespace Go.CE
open Go.RowKit
section
variable {P:Program} {w0:World} {S:Nat→Prop} {nt:Nat} {call:zh}
theorem zgo(C:y8 P call)(c:Code):vF P w0 S nt call c:=by
 induction c with
 |skip=>intro f fn round ro φ s s2 e a w Q hc R hr hQ;cases hc;exact wpIn_skip (hQ _ _ R.after)
 |region id ops draw=>
  cases draw with
  |false=>exact zj8 C id ops
  |true=>exact zmO C id ops
 |seq x y hx hy=>exact zq4 hx hy
 |cond c x y hx hy=>exact zo5 hx hy
 |block id x hx=>exact zmP hx
 |loop x hx=>exact zo4 hx
 |rangeFunc g ps assign body _ _=>exact zmN C
 |exit id=>intro f fn round ro φ s s2 e a w Q hc R hr hQ;cases hc;exact wpIn_exit (hQ _ _ R.after)
 |ret=>intro f fn round ro φ s s2 e a w Q hc R hr hQ;cases hc;exact wpIn_ret (hQ _ _ R.after)
 |_=>intro f fn round ro φ s s2 e a w Q hc R hr hQ;cases hc
theorem znP:∀(d:List BN) (h h2:AHeap),shut d h=some h2→h2.n=h.n
 | [],h,h2,e=>by cases e;rfl
 |b::d,h,h2,e=>by
  unfold shut at e;split at e
  ·exact(znP d _ _ e).trans rfl
  ·cases e
theorem zkL{φ:Phi}{fn:Func}{tmps:Array Value}{R:Ending→World→Prop}{h2:AHeap}(hR:∀w2,HRel w0 S φ h2 w2→LeavesIn (FR none) 0 P fn tmps R [] .returning w2):
  ∀(d:List BN) (h:AHeap) (w:World),shut d h=some h2→HRel w0 S φ h w→LeavesInM (FR none) 0 P fn tmps R (marks φ d) .returning w
 | [],h,w,e,H=>by cases e;exact hR w H
 |b::d,h,w,e,H=>by
  unfold shut at e;split at e
  ·rename_i hb;have g1:w.heap[(φ b).blk]? = some (.deferred (some [])):=H.obj b _ hb;refine⟨by simp,.inl ⟨(φ b).blk,_,rfl,run_takeDeferred g1,?_⟩⟩
   refine zkL hR d _ _ e ?_;exact H.put hb trivial (fun k hk=>World.putObj_heap_other hk) (by simp) rfl rfl rfl trivial
  ·cases e
def resF(tmps:Array Value):ResultVar→Sem Value
 | .tmp t=>pure (tmps.getD t undef)
 | .cell a t=>do loadVar t (←asAddr (tmps.getD a undef))
theorem zeO{φ:Phi}{n:Nat}{t:Tr AVal}{tmps:Array Value}(T:TRel φ nt n t tmps){i:Nat}{v:AVal}(hi:t.get (bn i)=some v):tmps.getD i undef=zp φ v∧wfA φ n v:=by
 have hlt:i<nt:=by
  apply Decidable.byContradiction;intro hn;rw[T.out i (by omega)]at hi
  cases hi
 have:=T.get i hlt;rw[hi]at this;refine⟨?_,T.wf _ _ hi⟩;rw[Array.getD_eq_getD_getElem?,this];rfl
theorem zcD{t:Tr AVal}{h:AHeap}{r:BN×Option (Option Nat)}{rs:List (BN×Option (Option Nat))}{vs:List SVal}(e:uX t h (r::rs)=some vs):
  ∃v vs',vs=v::vs'∧zcE t h r=some v∧uX t h rs=some vs':=by
 unfold uX at e;split at e
 ·rename_i v hv;unfold xW at e;split at e
  ·rename_i vs' hvs;cases e;exact⟨v,vs',rfl,hv,hvs⟩
  ·cases e
 ·cases e
theorem jO{φ:Phi}{h:AHeap}{w:World}{t:Tr AVal}{tmps:Array Value}(H:HRel w0 S φ h w)(T:TRel φ nt h.n.toNat t tmps):∀(l:List ResultVar) (rs:List (BN×Option (Option Nat))) (vs:List SVal),
  cRes P l=some rs→uX t h rs=some vs→(l.mapM (resF tmps)).run P w=.ok (vs.map (zB φ)) w∧∀v∈vs,wfS φ h.n.toNat v
 | [],rs,vs,hc,he=>by
  cases hc;cases he;exact⟨by simp,fun v hv=>by cases hv⟩
 | .tmp i::l,rs,vs,hc,he=>by
  unfold cRes at hc;split at hc
  ·rename_i rs' hrs;cases hc;obtain⟨v1,vs',rfl,hv1,hvs⟩:=zcD he;simp only[zcE]at hv1;split at hv1
   ·rename_i u hu;cases hv1;obtain⟨h1,h2⟩:=jO H T l rs' vs' hrs hvs;obtain⟨g1,g2⟩:=zeO T hu;refine⟨?_,fun v hv=>?_⟩
    ·rw[List.mapM_cons];simp only[resF,Sem.run_bind,Sem.run_pure,Result.andThen_ok,h1,g1];rfl
    ·cases hv with
     |head=>exact g2
     |tail _ hm=>exact h2 v hm
   ·cases hv1
  ·cases hc
 | .cell i ty::l,rs,vs,hc,he=>by
  unfold cRes at hc;split at hc
  ·rename_i n rs' hn hrs;cases hc;obtain⟨v1,vs',rfl,hv1,hvs⟩:=zcD he;simp only[zcE]at hv1;split at hv1
   ·rename_i b off hu;obtain⟨h1,h2⟩:=jO H T l rs' vs' hrs hvs;obtain⟨g1,g2⟩:=zeO T hu;have key:(loadVar ty (adr φ b off)).run P w=.ok (zB φ v1) w∧wfS φ h.n.toNat v1:=by
     unfold uj at hv1;split at hv1
     ·rename_i cs st hb;have hp:part n cs off h=some (.s v1,h):=by
       cases n with
       |none=>
        simp only at hv1;split at hv1
        ·rename_i c hcc;cases hv1;simp[part,retC,hcc]
        ·cases hv1
       |some n=>
        simp only at hv1;split at hv1
        ·rename_i c hcc;cases hv1;simp[part,retA,hcc]
        ·cases hv1
      obtain⟨k1,k2,_⟩:=zbk (P:=P) H hn hb hp;exact⟨k1,k2⟩
     ·cases hv1
    refine⟨?_,fun v hv=>?_⟩
    ·rw[List.mapM_cons];simp only[resF,Sem.run_bind,g1,zp,zB,zi,asAddr,Sem.run_pure,Result.andThen_ok,key.1,h1];rfl
    ·cases hv with
     |head=>exact key.2
     |tail _ hm=>exact h2 v hm
   ·cases hv1
  ·cases hc
theorem zio(fn:Func)(tmps:Array Value):results fn tmps=(do
  let vs ←fn.results.toList.mapM (resF tmps)
  pure (match vs with | [v]=>v|vs=>.tuple vs.toArray)):=by
 have:fn.results.mapM (resF tmps)=List.toArray <$> fn.results.toList.mapM (resF tmps):=by
  rw[←List.mapM_toArray]
 have e:results fn tmps=(do
   let vs ←fn.results.mapM (resF tmps)
   pure (if h:vs.size=1 then vs[0] else .tuple vs)):=by
  unfold results
  congr 1
 rw[e,this,map_eq_pure_bind,bind_assoc]
 congr 1
 funext vs
 rw[pure_bind]
 congr 1
 match vs with
 | []=>rfl
 | [v]=>rfl
 |v::u::vs=>rfl
theorem zin{φ:Phi}{h:AHeap}{w:World}{t:Tr AVal}{tmps:Array Value}(H:HRel w0 S φ h w)(T:TRel φ nt h.n.toNat t tmps){fn:Func}{rs:List (BN×Option (Option Nat))}(hc:cRes P fn.results.toList=some rs)
  {v:AVal} {h2:AHeap} (he:zbX h (uX t h rs)=some (v,h2)):(results fn tmps).run P w=.ok (zp φ v) w∧wfA φ h.n.toNat v∧h2=h:=by
 cases hv:uX t h rs with
 |none=>rw[hv]at he;cases he
 |some vs=>
  rw[hv]at he;obtain⟨h1,hw⟩:=jO H T _ rs vs hc hv;rw[zio,Sem.run_bind,h1]
  match vs,he,hw with
  | [],he,hw=>cases he;exact⟨rfl,(fun v hv=>by cases hv),rfl⟩
  | [u],he,hw=>cases he;exact⟨rfl,hw u (by simp),rfl⟩
  |u::u'::vs,he,hw=>cases he;exact⟨rfl,hw,rfl⟩
theorem qC:∀(args:List AVal) (i:Nat) (t:Tr AVal) (j:Nat),(ww (bn i) t args).get (bn j)=if j<i then t.get (bn j) else(args[j-i]?).or (t.get (bn j))
 | [],i,t,j=>by simp[ww]
 |v::vs,i,t,j=>by
  unfold ww;rw[j7,qC vs (i+1) _ j];by_cases h1:j<i
  ·rw[if_pos h1,if_pos (by omega),zo _ _ _ _ (fun hh=>by have:=uz hh;omega)]
  ·rw[if_neg h1];by_cases h2:j=i
   ·subst h2;rw[if_pos (by omega),zw]
    simp
   ·rw[if_neg (by omega),zo _ _ _ _ (fun hh=>by have:=uz hh;omega)]
    have:j-i=(j-(i+1))+1:=by omega
    rw[this,List.getElem?_cons_succ]
theorem znz{φ:Phi}{n nt:Nat}{args:List AVal}(hl:args.length≤nt)(hw:∀x∈args,wfA φ n x):
  TRel φ nt n (ww .z .nil args) ((args.map (zp φ)).toArray++Array.replicate (nt-(args.map (zp φ)).toArray.size) undef):=by
 have key:∀j,(ww .z .nil args).get (bn j)=args[j]?:=by
  intro j;have:=qC args 0 .nil j;simp only[Nat.not_lt_zero,if_false,Nat.sub_zero]at this;have e0:bn 0=.z:=rfl;rw[e0]at this;rw[this];have:(Tr.nil:Tr AVal).get (bn j)=none:=by cases bn j<;>rfl
  rw[this];simp
 refine⟨by simp;omega,fun i hi=>?_,fun i hi=>?_,fun i v hv=>?_⟩
 ·rw[key];by_cases hlt:i<args.length
  ·rw[Array.getElem?_append_left (by simpa using hlt)]
   simp[hlt]
  ·rw[Array.getElem?_append_right (by simp;omega)]
   have:args[i]? = none:=by simp;omega
   rw[this];simp only[List.size_toArray,List.length_map,Option.getD_none];rw[Array.getElem?_replicate,if_pos (by omega)]
   rfl
 ·rw[key];simp;omega
 ·rw[←zL i,key]at hv;exact hw v (Lz3 hv)
theorem zgs{g:Nat}{fn:Func}{c:Code}(hf:P.funcs[g]? = some fn)(hb:fn.body=some c)(hn:(fn.name == "runtime.NumGoroutine")=false)(as:Array Value)(w:World):(callFunc g as).run P w=.ok (.enter g as) w:=by
 simp only[callFunc,Sem.run_bind,run_program,Result.andThen,hf,hn,hb];rfl
theorem zlC{fn:Func}{r:RFunc}(h:zgt P fn=some r):∃c rs,fn.body=some c∧cRes P fn.results.toList=some rs∧(fn.name == "runtime.NumGoroutine")=false∧r=⟨fn.ntmps,rs,z5 P fn.ntmps c⟩:=by
 unfold zgt at h;split at h
 ·rename_i c rs hb hr;cases hn:fn.name == "runtime.NumGoroutine" with
  |true=>rw[hn]at h;cases h
  |false=>rw[hn]at h;cases h;exact⟨c,rs,hb,hr,rfl,rfl⟩
 ·cases h
def FsOk(P:Program)(fs:Nat→Option RFunc):Prop:=∀g r,fs g=some r→∃fn,P.funcs[g]? = some fn∧zgt P fn=some r
theorem zrC(C:y8 P call){fs:Nat→Option RFunc}(hfs:FsOk P fs){f g:Nat}{φ:Phi}{h h2:AHeap}{w:World}{args:List AVal}{v:AVal}(H:HRel w0 S φ h w)(hw:∀x∈args,wfA φ h.n.toNat x)
  (e:zld fs call f g args h=some (v,h2)):(∀as w,(callFunc g as).run P w=.ok (.enter g as) w)∧CallsIn (FR none) 0 P g (args.map (zp φ)).toArray w (Ret w0 S φ h v h2):=by
 unfold zld at e;split at e
 ·rename_i ntmps rs body hfg;obtain⟨fn,hf,hcf⟩:=hfs g _ hfg;obtain⟨c,rs',hb,hrs,hname,hr⟩:=zlC hcf;cases hr;refine⟨zgs hf hb hname,?_⟩;cases hl:lenA args fn.ntmps with
  |false=>rw[hl]at e;cases e
  |true=>
   rw[hl]at e;simp only[cond_true]at e;cases hbody:z5 P fn.ntmps c call f g none ⟨ww .z .nil args,[],h⟩ with
   |none=>rw[hbody]at e;cases e
   |some p=>
    obtain⟨ex,t1,d1,h1⟩:=p;rw[hbody]at e;refine callsIn_of_wp_marks hf hb trivial (zgo C c f g none none φ _ _ ex _ w _ hbody ⟨H,znz (zkK _ _ hl) hw,rfl,fun b hb=>by cases hb⟩ rfl fun a2 w2 hA=>?_) rfl
    obtain⟨φ2,he2,⟨H2,T2,D2,dn2⟩,hle⟩:=hA;simp only at H2 T2 D2 dn2 he2 hle;have key:leave rs (some (.normal,⟨t1,d1,h1⟩))=some (v,h2)→LeavesInM (FR none) 0 P fn a2.tmps (Ret w0 S φ h v h2) a2.defers .returning w2:=by
     intro e;simp only[leave]at e;split at e
     ·rename_i h3 hs;rw[D2];refine zkL (fun w3 H3=>?_) d1 h1 w2 hs H2
      have hn3:=znP _ _ _ hs;have T3:TRel φ2 fn.ntmps h3.n.toNat t1 a2.tmps:=by rw[hn3];exact T2
      obtain⟨k1,k2,rfl⟩:=zin H3 T3 hrs e;exact⟨_,k1,φ2,rfl,he2,H3,k2,by rw[hn3];exact hle⟩
     ·cases e
    cases ex with
    |normal=>exact key e
    |exit id=>cases e
    |ret=>exact key e
 ·cases e
theorem zgP{φ:Phi}{n:Nat}:∀(ps:List Nat) (args:List AVal) (t t2:Tr AVal) (arr:Array Value),zmt nt t ps args=some t2→TRel φ nt n t arr→(∀x∈args,wfA φ n x)→
  TRel φ nt n t2 ((ps.zip (args.map (zp φ))).foldl (fun t (p:Nat×Value)=>t.setIfInBounds p.1 p.2) arr)∧args.length=ps.length
 | [],[],t,t2,arr,e,T,hw=>by cases e;exact⟨T,rfl⟩
 |p::ps,v::vs,t,t2,arr,e,T,hw=>by
  unfold zmt at e;cases hp:Nat.ble (Nat.succ p) nt with
  |false=>rw[hp]at e;cases e
  |true=>
   rw[hp]at e;simp only[cond_true]at e;have T2:=TRel.put (a:={ tmps:=arr,defers:=[] }) T (hw v (by simp)) (some p) hp
   obtain⟨k1,k2⟩:=zgP ps vs _ t2 _ e T2 fun x hx=>hw x (by simp[hx])
   exact⟨k1,by simp[k2]⟩
 | [],_::_,t,t2,arr,e,T,hw=>by cases e
 |_::_,[],t,t2,arr,e,T,hw=>by cases e
theorem zmD(C:y8 P call){f:Nat}{l:BN}{φ:Phi}{h h2:AHeap}{w:World}{args:List AVal}{v:AVal}(H:HRel w0 S φ h w)(hw:∀x∈args,wfA φ h.n.toNat x)
  (e : zf7 (z5 P) call f l args h = some (v, h2)) : ∃ f tmps assign body, (Instr.yield (φ l).blk (args.map (zp φ)).toArray).run P w = .ok (.round (φ l).blk f tmps assign body) w ∧
   RoundIn (FR none) 0 P (φ l).blk f tmps assign body w (Ret w0 S φ h v h2):=by
 unfold zf7 at e;split at e
 ·rename_i pend lf ln lt lps la lb ld hl;split at e
  ·rename_i t ht;obtain⟨arr,f8,g1,g2,g3⟩:=H.obj l _ hl;have hln:=H.okk _ _ hl;obtain⟨T,hlen⟩:=zgP _ _ _ _ arr ht g2 hw;refine⟨f8,_,la,lb,run_yield g1 (by simp[hlen]),?_⟩
   have harr:((lps.zip (args.map (zp φ)).toArray).foldl (fun tmps (x:Nat×Value)=>tmps.setIfInBounds x.1 x.2) arr)=((lps.toList.zip (args.map (zp φ))).foldl (fun t (p:Nat×Value)=>t.setIfInBounds p.1 p.2) arr):=by
    rw[←Array.foldl_toList,Array.toList_zip]
   split at e
   ·rename_i t1 d1 h1 has;split at e
    ·rename_i h3 hbe;refine roundIn_of_wpIn trivial ?_;refine zgo C la f lf (some l) (some (φ l).blk) φ ⟨t,[],h⟩ ⟨t1,d1,h1⟩ .normal _ w _ has ⟨H,?_,rfl,fun b hb=>by cases hb⟩ ⟨rfl,hln⟩ fun a1 w1 hA=>?_
     ·show TRel φ ln h.n.toNat t _;rw[harr];exact T
     ·obtain⟨φ1,he1,⟨H1,T1,D1,dn1⟩,hle1⟩:=hA;simp only at H1 T1 D1 dn1 he1 hle1;unfold zok at hbe;split at hbe
      ·rename_i p9 lf9 ln9 lt9 lps9 la9 lb9 ld9 hl9;cases hbe;obtain⟨arr9,f9,k1,k2,k3⟩:=H1.obj l _ hl9;have el:φ1 l=φ l:=he1 l hln.1;have hlt:(φ1 l).blk<w1.heap.size:=(Lz7.1 k1).1;have H3:HRel w0 S φ1 (h1.put l (.loop .busy p9 lf9 ln9 lt9 lps9 la9 lb9 ld9)) (w1.putObj (φ1 l).blk (.loop { state:=.busy,pending:=p9.map zaa,fn:=f9,tmps:=arr9,params:=lps9,assign:=la9,body:=lb9,defers:=(φ1 ld9).blk })):=
        H1.put hl9 trivial (fun k hk=>World.putObj_heap_other hk) (by simp) rfl rfl rfl ⟨arr9,f9,World.putObj_heap_same hlt,k2,k3⟩
       have hbr:=run_beginRound (P:=P) k1 rfl;rw[el]at hbr;refine⟨_,hbr,?_⟩;rw[el]at H3;cases hbd:z5 P ln lb call f lf (some l) ⟨t1,d1,h1.put l (.loop .busy p9 lf9 ln9 lt9 lps9 la9 lb9 ld9)⟩ with
       |none=>rw[hbd]at e;cases e
       |some p=>
        obtain⟨ex,t4,d4,h4⟩:=p;rw[hbd]at e;refine zgo C lb f lf (some l) (some (φ l).blk) φ1 _ _ ex a1 _ _ hbd ⟨H3,T1,D1,dn1⟩ ⟨by rw[el],okB.ext he1 hle1 hln⟩ fun a5 w5 hA5=>?_
        obtain⟨φ5,he5,⟨H5,T5,D5,dn5⟩,hle5⟩:=hA5;simp only[zmF]at H5 T5 D5 dn5 he5 hle5;cases d4 with
        |cons b d=>cases e
        |nil=>
         simp only[zn9,endR]at e;split at e
         ·rename_i s6 p6 lf6 ln6 lt6 lps6 la6 lb6 ld6 hl6;obtain⟨arr6,f6,m1,m2,m3⟩:=H5.obj l _ hl6;have el5:φ5 l=φ l:=(he5 l (okB.ext he1 hle1 hln).1).trans el;rw[el5]at m1;have hlt5:(φ l).blk<w5.heap.size:=(Lz7.1 m1).1;have hE:Ext h.n.toNat φ φ5:=he1.trans he5 hle1;have fin:∀(j:Option RExit) (st:LoopState),st=(if (j.map zaa).isNone then .ready else .done)→HRel w0 S φ5 (h4.put l (.loop st j lf6 ln6 lt6 lps6 la6 lb6 ld6)) (w5.putObj (φ l).blk (.loop { state:=if (j.map zaa).isNone then .ready else .done,pending:=j.map zaa,fn:=f6,tmps:=arr6,params:=lps6,assign:=la6,body:=lb6,defers:=(φ5 ld6).blk })):=by
           intro j st hst;subst hst;refine H5.put hl6 trivial (fun k hk=>?_) (by simp) rfl rfl rfl ⟨arr6,f6,?_,m2,m3⟩
           ·rw[el5]at hk;exact World.putObj_heap_other hk
           ·rw[el5];exact World.putObj_heap_same hlt5
          cases ex with
          |normal=>
           cases e;exact⟨_,_,run_endRound none m1,φ5,rfl,hE,fin none .ready rfl,trivial,Nat.le_trans hle1 hle5⟩
          |exit id=>
           cases e;exact⟨_,_,run_endRound (some (.exit id)) m1,φ5,rfl,hE,fin (some (.exit id)) .done rfl,trivial,Nat.le_trans hle1 hle5⟩
          |ret=>
           cases e;exact⟨_,_,run_endRound (some .ret) m1,φ5,rfl,hE,fin (some .ret) .done rfl,trivial,Nat.le_trans hle1 hle5⟩
         ·cases e
      ·cases hbe
    ·cases e
   ·cases e
  ·cases e
 ·cases e
theorem zgw(C:y8 P call){fs:Nat→Option RFunc}(hfs:FsOk P fs)(f:Nat):y8 P (zcG (z5 P) fs call f):=
 fun _ _ _ _ _ _ _ _ H hw=>⟨fun _ e=>zrC C hfs H hw e,fun _ e=>zmD C H hw e⟩
theorem zfL:y8 P (fun _ _ _=>none):=
 fun _ _ _ _ _ _ _ _ _ _=>⟨fun _ e=>(by cases e),fun _ e=>(by cases e)⟩
theorem zly{fs:Nat→Option RFunc}(hfs:FsOk P fs):∀n,y8 P (zof (z5 P) fs n)
 |0=>zfL
 |n+1=>zgw (zly hfs n) hfs n
theorem wO{α:Type}:∀(l:List α) (i:Nat) (t:Tr α) (j:Nat),(Tr.ofList (bn i) l t).get (bn j)=if j<i then t.get (bn j) else(l[j-i]?).or (t.get (bn j))
 | [],i,t,j=>by simp[Tr.ofList]
 |v::vs,i,t,j=>by
  unfold Tr.ofList;rw[j7,wO vs (i+1) _ j];by_cases h1:j<i
  ·rw[if_pos h1,if_pos (by omega),zo _ _ _ _ (fun hh=>by have:=uz hh;omega)]
  ·rw[if_neg h1];by_cases h2:j=i
   ·subst h2;rw[if_pos (by omega),zw]
    simp
   ·rw[if_neg (by omega),zo _ _ _ _ (fun hh=>by have:=uz hh;omega)]
    have:j-i=(j-(i+1))+1:=by omega
    rw[this,List.getElem?_cons_succ]
theorem zjW(P:Program):FsOk P (cFs (xX P)):=by
 intro g r h;unfold cFs xX at h;have e0:BN.z=bn 0:=rfl;rw[e0,wO]at h;have:(Tr.nil:Tr (Option RFunc)).get (bn g)=none:=by cases bn g<;>rfl
 rw[this]at h;simp only[Nat.not_lt_zero,if_false,Nat.sub_zero,Option.or_none,Lz6,LzA]at h;cases hg:P.funcs[g]? with
 |none=>rw[hg]at h;cases h
 |some fn=>
  rw[hg]at h;exact⟨fn,rfl,h⟩
end
end Go.CE
end
section
namespace Go.CE
open Go.RowKit
noncomputable section
structure Mt where
 ρ:Tr BN
 inv:Tr BN
 work:List (BN×BN)
def mB(b b':BN)(m:Mt):Option Mt:=
 match m with
 |⟨ρ,inv,work⟩=>
  match ρ.get b with
  |some b''=>bif eqBN b'' b' then some ⟨ρ,inv,work⟩ else none
  |none=>
   match inv.get b' with
   |some _=>none
   |none=>some ⟨ρ.set b b',inv.set b' b,(b,b')::work⟩
def xk:CVal→Bool
 | .bool _ | .int _ _ | .str _ | .nilp | .nils | .nilm | .nilf | .nili=>true
 |_=>false
def mC(m:Mt)(c c':CVal):Option Mt:=
 match c with
 | .ptr b o=>
  match c' with
  | .ptr b' o'=>bif Nat.beq o o' then mB b b' m else none
  |_=>none
 | .slc b o l k e=>
  match c' with
  | .slc b' o' l' k' e'=>bif Nat.beq o o'&&Nat.beq l l'&&Nat.beq k k'&&eqB e e' then mB b b' m else none
  |_=>none
 |c=>bif xk c&&eqV c c' then some m else none
def mCs:List CVal→List CVal→Mt→Option Mt
 | [],[],m=>some m
 |c::cs,c'::cs',m=>
  match mC m c c' with
  |some m'=>mCs cs cs' m'
  |none=>none
 |_,_,_=>none
def mS(m:Mt):SVal→SVal→Option Mt
 | .one c,.one c'=>mC m c c'
 | .agg cs,.agg cs'=>mCs cs cs' m
 |_,_=>none
def mA:List AVal→List AVal→Mt→Option Mt
 | [],[],m=>some m
 | .s v::vs,.s v'::vs',m=>
  match mS m v v' with
  |some m'=>mA vs vs' m'
  |none=>none
 |_,_,_=>none
def ziI(hc h:AHeap):Nat→Mt→Option (Tr BN)
 |0,_=>none
 |f+1,⟨ρ,inv,work⟩=>
  match work with
  | []=>some ρ
  |(b,b')::ws=>
   match hc.t.get b,h.t.get b' with
   |some (.cells cs st),some (.cells cs' st')=>
    bif Nat.beq st st' then
     match mCs cs cs' ⟨ρ,inv,ws⟩ with
     |some m'=>ziI hc h f m'
     |none=>none
    else none
   |_,_=>none
structure Sum where
 g:Nat
 args:List AVal
 objs:List AObj
 res:AVal
def Sum.heap(s:Sum):AHeap:=⟨bn s.objs.length,Tr.ofList .z s.objs .nil⟩
def allR(ρ:Tr BN):BN→List AObj→Bool
 |_,[]=>true
 |i,_::l=>
  match ρ.get i with
  |some _=>allR ρ i.succ l
  |none=>false
def Sum.fits(s:Sum)(args:List AVal)(h:AHeap):Bool:=
 match mA s.args args ⟨.nil,.nil,[]⟩ with
 |some m=>
  match ziI s.heap h (Nat.succ s.objs.length) m with
  |some ρ=>allR ρ .z s.objs
  |none=>false
 |none=>false
def zg2:SVal→Bool
 | .one c=>xk c
 | .agg cs=>cs.all xk
def wc:AVal→Bool
 | .s v=>zg2 v
 | .tup vs=>vs.all zg2
def zjB(h2:AHeap):BN→List AObj→Bool
 |_,[]=>true
 |i,.cells cs st::l=>
  match h2.t.get i with
  |some (.cells cs' st')=>eqVs cs cs'&&Nat.beq st st'&&zjB h2 i.succ l
  |_=>false
 |_,_::_=>false
def Sum.chk(call:zh)(s:Sum):Bool:=
 match call (.inl s.g) s.args s.heap with
 |some (v,h2)=>eqA s.res v&&wc s.res&&zjB h2 .z s.objs
 |none=>false
def xQ(g:Nat)(args:List AVal)(h:AHeap):List Sum→Option AVal
 | []=>none
 |s::l=>bif Nat.beq g s.g&&s.fits args h then some s.res else xQ g args h l
def zd3(sums:List Sum)(call:zh):zh
 | .inl g,args,h=>
  match xQ g args h sums with
  |some v=>some (v,h)
  |none=>call (.inl g) args h
 | .inr l,args,h=>call (.inr l) args h
def yu(cc:Nat→Code→xi)(fs:Nat→Option RFunc)(sums:List Sum)(n:Nat):zh:=
 Nat.rec (motive:=fun _=>zh) (fun _ _ _=>none) (fun f ih=>zd3 sums (zcG cc fs ih f)) n
def isTrue:Res→Bool
 |some (.s (.one (.bool b)),_)=>b
 |_=>false
end
theorem ziM{r:Res}(h:isTrue r=true):∃h2,r=some (.s (.one (.bool true)),h2):=by
 unfold isTrue at h;split at h
 ·subst h;exact⟨_,rfl⟩
 ·cases h
def RC(ρ:Tr BN):CVal→CVal→Prop
 | .ptr b o,c'=>∃b',c'=.ptr b' o∧ρ.get b=some b'
 | .slc b o l k e,c'=>∃b',c'=.slc b' o l k e∧ρ.get b=some b'
 |c,c'=>xk c=true∧c'=c
def Sub(ρ ρ':Tr BN):Prop:=∀b b',ρ.get b=some b'→ρ'.get b=some b'
theorem Sub.refl(ρ:Tr BN):Sub ρ ρ:=fun _ _ h=>h
theorem Sub.trans{a b c:Tr BN}(h:Sub a b)(k:Sub b c):Sub a c:=fun _ _ hh=>k _ _ (h _ _ hh)
theorem RC.mono{ρ ρ':Tr BN}(hs:Sub ρ ρ'){c c':CVal}(h:RC ρ c c'):RC ρ' c c':=by
 cases c with
 |ptr b o=>obtain⟨b',h1,h2⟩:=h;exact⟨b',h1,hs _ _ h2⟩
 |slc b o l k e=>obtain⟨b',h1,h2⟩:=h;exact⟨b',h1,hs _ _ h2⟩
 |_=>exact h
def RCs(ρ:Tr BN)(cs cs':List CVal):Prop:=cs'.length=cs.length∧∀(i:Nat) (c:CVal),cs[i]? = some c→∃c',cs'[i]? = some c'∧RC ρ c c'
theorem RCs.mono{ρ ρ':Tr BN}(hs:Sub ρ ρ'){cs cs':List CVal}(h:RCs ρ cs cs'):RCs ρ' cs cs':=
 ⟨h.1,fun i c hc=>by obtain⟨c',h1,h2⟩:=h.2 i c hc;exact⟨c',h1,h2.mono hs⟩⟩
def RS(ρ:Tr BN):SVal→SVal→Prop
 | .one c,v=>∃c',v=.one c'∧RC ρ c c'
 | .agg cs,v=>∃cs',v=.agg cs'∧RCs ρ cs cs'
theorem RS.mono{ρ ρ':Tr BN}(hs:Sub ρ ρ'){v v':SVal}(h:RS ρ v v'):RS ρ' v v':=by
 cases v with
 |one c=>obtain⟨c',h1,h2⟩:=h;exact⟨c',h1,h2.mono hs⟩
 |agg cs=>obtain⟨cs',h1,h2⟩:=h;exact⟨cs',h1,h2.mono hs⟩
structure MI (D:BN→BN→Prop) (hc h:AHeap) (m:Mt):Prop where
 inv:∀b b',m.ρ.get b=some b'→m.inv.get b'=some b
 pairs:∀b b',m.ρ.get b=some b'→(b,b')∈m.work∨D b b'∨∃cs cs' st,hc.t.get b=some (.cells cs st)∧h.t.get b'=some (.cells cs' st)∧RCs m.ρ cs cs'
section
variable {D:BN→BN→Prop} {hc h:AHeap}
theorem zpj{m m':Mt}{b b':BN}(I:MI D hc h m)(e:mB b b' m=some m'):MI D hc h m'∧Sub m.ρ m'.ρ∧m'.ρ.get b=some b':=by
 obtain⟨ρ,inv,work⟩:=m;unfold mB at e;simp only at e;split at e
 ·rename_i b'' hb;cases hq:eqBN b'' b' with
  |false=>rw[hq]at e;cases e
  |true=>
   rw[hq]at e;cases e;rw[u3 hq]at hb;exact⟨I,Sub.refl _,hb⟩
 ·rename_i hb;split at e
  ·cases e
  ·rename_i hi;cases e;have hsub:Sub ρ (ρ.set b b'):=by
    intro x y hx;have:x≠b:=fun hh=>by subst hh;rw[hb]at hx;cases hx
    rw[zo _ _ _ _ this];exact hx
   refine⟨⟨fun x y hx=>?_,fun x y hx=>?_⟩,hsub,zw _ _ _⟩
   ·show (inv.set b' b).get y=some x;by_cases hxb:x=b
    ·subst hxb;have:y=b':=by
      have hx:(ρ.set x b').get x=some y:=hx;rw[zw]at hx;exact(Option.some.inj hx).symm
     subst this;exact zw _ _ _
    ·have hx:(ρ.set b b').get x=some y:=hx;rw[zo _ _ _ _ hxb]at hx;have h1:=I.inv x y hx;have:y≠b':=fun hh=>by subst hh;rw[hi]at h1;cases h1
     rw[zo _ _ _ _ this];exact h1
   ·by_cases hxb:x=b
    ·subst hxb;have:y=b':=by
      have hx:(ρ.set x b').get x=some y:=hx;rw[zw]at hx;exact(Option.some.inj hx).symm
     subst this;exact .inl (List.mem_cons_self ..)
    ·have hx:(ρ.set b b').get x=some y:=hx;rw[zo _ _ _ _ hxb]at hx;rcases I.pairs x y hx with h1|h1|⟨cs,cs',st,h1,h2,h3⟩
     ·exact .inl (List.mem_cons_of_mem _ h1)
     ·exact .inr (.inl h1)
     ·exact .inr (.inr ⟨cs,cs',st,h1,h2,h3.mono hsub⟩)
theorem zrk{m m':Mt}{c c':CVal}(I:MI D hc h m)(e:mC m c c'=some m'):MI D hc h m'∧Sub m.ρ m'.ρ∧RC m'.ρ c c':=by
 have rest:(bif xk c&&eqV c c' then some m else none)=some m'→(xk c=true→RC m'.ρ c c'∨True)→MI D hc h m'∧Sub m.ρ m'.ρ∧xk c=true∧c'=c:=by
  intro e _;cases hq:(xk c&&eqV c c') with
  |false=>rw[hq]at e;cases e
  |true=>
   rw[hq]at e;cases e;obtain⟨h1,h2⟩:=and2 hq;exact⟨I,Sub.refl _,h1,(zle h2).symm⟩
 cases c with
 |ptr b o=>
  cases c' with
  |ptr b' o'=>
   simp only[mC]at e;cases hq:Nat.beq o o' with
   |false=>rw[hq]at e;cases e
   |true=>
    rw[hq]at e;obtain⟨h1,h2,h3⟩:=zpj I e;exact⟨h1,h2,b',by rw[beq_true hq],h3⟩
  |_=>cases e
 |slc b o l k x=>
  cases c' with
  |slc b' o' l' k' x'=>
   simp only[mC]at e;cases hq:(Nat.beq o o'&&Nat.beq l l'&&Nat.beq k k'&&eqB x x') with
   |false=>rw[hq]at e;cases e
   |true=>
    rw[hq]at e;obtain⟨h1,h2,h3⟩:=zpj I e;obtain⟨q1,q2⟩:=and2 hq;obtain⟨q1,q3⟩:=and2 q1;obtain⟨q1,q4⟩:=and2 q1;exact⟨h1,h2,b',by rw[beq_true q1,beq_true q4,beq_true q3,zll q2],h3⟩
  |_=>cases e
 |_=>exact rest e (fun _=>.inr trivial)
theorem zkI:∀(cs cs':List CVal) (m m':Mt),MI D hc h m→mCs cs cs' m=some m'→MI D hc h m'∧Sub m.ρ m'.ρ∧RCs m'.ρ cs cs'
 | [],[],m,m',I,e=>by cases e;exact⟨I,Sub.refl _,rfl,fun i c hc=>by simp at hc⟩
 |c::cs,c'::cs',m,m',I,e=>by
  unfold mCs at e;split at e
  ·rename_i m1 h1;obtain⟨I1,s1,r1⟩:=zrk I h1;obtain⟨I2,s2,r2⟩:=zkI cs cs' m1 m' I1 e;refine⟨I2,s1.trans s2,by simp[r2.1],fun i x hx=>?_⟩
   cases i with
   |zero=>
    simp only[List.getElem?_cons_zero,Option.some.injEq]at hx;subst hx;exact⟨c',rfl,r1.mono s2⟩
   |succ i=>
    simp only[List.getElem?_cons_succ]at hx ⊢;exact r2.2 i x hx
  ·cases e
 | [],_::_,m,m',I,e=>by cases e
 |_::_,[],m,m',I,e=>by cases e
theorem zrj{m m':Mt}{v v':SVal}(I:MI D hc h m)(e:mS m v v'=some m'):MI D hc h m'∧Sub m.ρ m'.ρ∧RS m'.ρ v v':=by
 cases v with
 |one c=>
  cases v' with
  |one c'=>obtain⟨h1,h2,h3⟩:=zrk I e;exact⟨h1,h2,c',rfl,h3⟩
  |agg cs'=>cases e
 |agg cs=>
  cases v' with
  |one c'=>cases e
  |agg cs'=>obtain⟨h1,h2,h3⟩:=zkI _ _ _ _ I e;exact⟨h1,h2,cs',rfl,h3⟩
def RAs(ρ:Tr BN):List AVal→List AVal→Prop
 | [],[]=>True
 | .s v::vs,.s v'::vs'=>RS ρ v v'∧RAs ρ vs vs'
 |_,_=>False
theorem RAs.mono{ρ ρ':Tr BN}(hs:Sub ρ ρ'):∀{vs vs':List AVal},RAs ρ vs vs'→RAs ρ' vs vs'
 | [],[],_=>trivial
 | .s _::_,.s _::_,h=>⟨h.1.mono hs,RAs.mono hs h.2⟩
 | [],_::_,h=>h.elim
 | .tup _::_,_,h=>by cases h
 | .s _::_,[],h=>by cases h
 | .s _::_,.tup _::_,h=>by cases h
theorem znb:∀(vs vs':List AVal) (m m':Mt),MI D hc h m→mA vs vs' m=some m'→MI D hc h m'∧Sub m.ρ m'.ρ∧RAs m'.ρ vs vs'
 | [],[],m,m',I,e=>by cases e;exact⟨I,Sub.refl _,trivial⟩
 | .s v::vs,.s v'::vs',m,m',I,e=>by
  unfold mA at e;split at e
  ·rename_i m1 h1;obtain⟨I1,s1,r1⟩:=zrj I h1;obtain⟨I2,s2,r2⟩:=znb vs vs' m1 m' I1 e;exact⟨I2,s1.trans s2,r1.mono s2,r2⟩
  ·cases e
 | [],_::_,m,m',I,e=>by cases e
 | .tup _::_,_,m,m',I,e=>by unfold mA at e;cases e
 | .s _::_,[],m,m',I,e=>by cases e
 | .s _::_,.tup _::_,m,m',I,e=>by cases e
theorem zaD:∀(f:Nat) (m:Mt) (ρ:Tr BN),MI (fun _ _=>False) hc h m→ziI hc h f m=some ρ→∃inv,MI (fun _ _=>False) hc h ⟨ρ,inv,[]⟩∧Sub m.ρ ρ
 |0,m,ρ,I,e=>by cases e
 |f+1,⟨ρ0,inv,work⟩,ρ,I,e=>by
  unfold ziI at e;cases work with
  |nil=>cases e;exact⟨inv,I,Sub.refl _⟩
  |cons p ws=>
   obtain⟨b,b'⟩:=p;simp only at e;split at e
   ·rename_i cs st cs' st' h1 h2;cases hq:Nat.beq st st' with
    |false=>rw[hq]at e;cases e
    |true=>
     rw[hq]at e;simp only[cond_true]at e;have hst:=beq_true hq;subst hst;cases hm:mCs cs cs' ⟨ρ0,inv,ws⟩ with
     |none=>rw[hm]at e;cases e
     |some m1=>
      rw[hm]at e;have I0:MI (fun x y=>x=b∧y=b') hc h ⟨ρ0,inv,ws⟩:=by
       refine⟨I.inv,fun x y hx=>?_⟩
       rcases I.pairs x y hx with k|k|k
       ·cases k with
        |head=>exact .inr (.inl ⟨rfl,rfl⟩)
        |tail _ hm=>exact .inl hm
       ·exact k.elim
       ·exact .inr (.inr k)
      obtain⟨I1,s1,r1⟩:=zkI cs cs' _ m1 I0 hm;have I2:MI (fun _ _=>False) hc h m1:=by
       refine⟨I1.inv,fun x y hx=>?_⟩
       rcases I1.pairs x y hx with k|⟨rfl,rfl⟩|k
       ·exact .inl k
       ·exact .inr (.inr ⟨cs,cs',st,h1,h2,r1⟩)
       ·exact .inr (.inr k)
      obtain⟨inv',k1,k2⟩:=zaD f m1 ρ I2 e;exact⟨inv',k1,s1.trans k2⟩
   ·cases e
theorem xp{s:Sum}{args:List AVal}(e:s.fits args h=true):∃ρ:Tr BN,RAs ρ s.args args∧(∀b c b',ρ.get b=some b'→ρ.get c=some b'→b=c)∧
  (∀b b',ρ.get b=some b'→∃cs cs' st,s.heap.t.get b=some (.cells cs st)∧h.t.get b'=some (.cells cs' st)∧RCs ρ cs cs')∧allR ρ .z s.objs=true:=by
 unfold Sum.fits at e;split at e
 ·rename_i m hm;split at e
  ·rename_i ρ hρ;have I0:MI (fun _ _=>False) s.heap h ⟨.nil,.nil,[]⟩:=⟨(fun b b' hb=>by cases b<;>cases hb),(fun b b' hb=>by cases b<;>cases hb)⟩
   obtain⟨I1,s1,r1⟩:=znb _ _ _ _ I0 hm;obtain⟨inv,I2,s2⟩:=zaD _ _ _ I1 hρ;refine⟨ρ,r1.mono s2,fun b c b' hb hc=>?_,fun b b' hb=>?_,e⟩
   ·have h1:=I2.inv b b' hb;have h2:=I2.inv c b' hc;exact Option.some.inj (h1.symm.trans h2)
   ·rcases I2.pairs b b' hb with k|k|k
    ·cases k
    ·exact k.elim
    ·exact k
  ·cases e
 ·cases e
end
section
variable {P:Program} {w0:World} {S:Nat→Prop} {φ:Phi} {h:AHeap} {w:World}
noncomputable def via(ρ:Tr BN)(φ:Phi):Phi:=fun b=>match ρ.get b with|some b'=>φ b'|none=>⟨0,0,0,true,none⟩
theorem yW{ρ:Tr BN}{b b':BN}(hb:ρ.get b=some b'):via ρ φ b=φ b':=by unfold via;rw[hb]
theorem qR{ρ:Tr BN}{c c':CVal}(hr:RC ρ c c'):zi φ c'=zi (via ρ φ) c:=by
 cases c with
 |ptr b o=>obtain⟨b',rfl,hb⟩:=hr;simp only[zi,adr,yW hb]
 |slc b o l k e=>obtain⟨b',rfl,hb⟩:=hr;simp only[zi,adr,yW hb]
 |_=>obtain⟨hp,rfl⟩:=hr;first|rfl|cases hp
theorem zi5{ρ:Tr BN}{n m:Nat}(hlt:∀b b',ρ.get b=some b'→b.toNat<m){c c':CVal}(hr:RC ρ c c')(hw:wfC φ n c'):wfC (via ρ φ) m c:=by
 cases c with
 |ptr b o=>obtain⟨b',rfl,hb⟩:=hr;exact⟨hlt _ _ hb,by rw[yW hb];exact hw.2⟩
 |slc b o l k e=>
  obtain⟨b',rfl,hb⟩:=hr;exact⟨⟨hlt _ _ hb,by rw[yW hb];exact hw.1.2⟩,by rw[yW hb];exact hw.2.1,hw.2.2⟩
 |_=>obtain⟨hp,rfl⟩:=hr;first|trivial|cases hp
theorem znJ{ρ:Tr BN}{cs cs':List CVal}(hr:RCs ρ cs cs'):cs'.map (zi φ)=cs.map (zi (via ρ φ)):=by
 apply List.ext_getElem?;intro i;rw[Lz6,Lz6];cases hc:cs[i]? with
 |none=>
  have:cs'[i]? = none:=by
   have:=hr.1;rw[List.getElem?_eq_none_iff]at hc ⊢;omega
  rw[this];rfl
 |some c=>
  obtain⟨c',h1,h2⟩:=hr.2 i c hc;rw[h1];simp only[Option.map_some,qR h2]
theorem zqi{ρ:Tr BN}{v v':SVal}(hr:RS ρ v v'):zB φ v'=zB (via ρ φ) v:=by
 cases v with
 |one c=>obtain⟨c',rfl,h2⟩:=hr;exact qR h2
 |agg cs=>obtain⟨cs',rfl,h2⟩:=hr;simp only[zB,znJ h2]
theorem ztD{ρ:Tr BN}{n m:Nat}(hlt:∀b b',ρ.get b=some b'→b.toNat<m){v v':SVal}(hr:RS ρ v v')(hw:wfS φ n v'):wfS (via ρ φ) m v:=by
 cases v with
 |one c=>obtain⟨c',rfl,h2⟩:=hr;exact zi5 hlt h2 hw
 |agg cs=>
  obtain⟨cs',rfl,h2⟩:=hr;intro c hc;obtain⟨i,hi⟩:=List.mem_iff_getElem?.1 hc;obtain⟨c',h3,h4⟩:=h2.2 i c hi;exact zi5 hlt h4 (hw c' (Lz3 h3))
theorem zlK{ρ:Tr BN}{n m:Nat}(hlt:∀b b',ρ.get b=some b'→b.toNat<m):∀{vs vs':List AVal},RAs ρ vs vs'→(∀x∈vs',wfA φ n x)→vs'.map (zp φ)=vs.map (zp (via ρ φ))∧∀x∈vs,wfA (via ρ φ) m x
 | [],[],_,_=>⟨rfl,fun x hx=>by cases hx⟩
 | .s v::vs,.s v'::vs',hr,hw=>by
  obtain⟨h1,h2⟩:=zlK (n:=n) hlt hr.2 fun x hx=>hw x (by simp[hx])
  refine⟨?_,fun x hx=>?_⟩
  ·simp only[List.map_cons,h1,zp,zqi hr.1]
  ·cases hx with
   |head=>exact ztD hlt hr.1 (hw (.s v') (by simp))
   |tail _ hm=>exact h2 x hm
 | [],_::_,hr,_=>hr.elim
 | .tup _::_,_,hr,_=>by cases hr
 | .s _::_,[],hr,_=>by cases hr
 | .s _::_,.tup _::_,hr,_=>by cases hr
theorem qj{ρ:Tr BN}:∀(l:List AObj) (i j:Nat) (o:AObj),allR ρ (bn i) l=true→l[j]? = some o→∃b',ρ.get (bn (i+j))=some b'
 | [],i,j,o,e,hj=>by simp at hj
 |x::l,i,j,o,e,hj=>by
  unfold allR at e;split at e
  ·rename_i b' hb;cases j with
   |zero=>exact⟨b',hb⟩
   |succ j=>
    rw[j7]at e;obtain⟨b'',hb''⟩:=qj l (i+1) j o e (by simpa using hj)
    exact⟨b'',by rwa [show i+(j+1)=i+1+j by omega]⟩
  ·cases e
theorem zaE(s:Sum)(b:BN):s.heap.t.get b=s.objs[b.toNat]?:=by
 have e0:BN.z=bn 0:=rfl;show (Tr.ofList .z s.objs .nil).get b=_;have:=wO s.objs 0 (.nil:Tr AObj) b.toNat;rw[zL,←e0]at this;rw[this];have hn:(Tr.nil:Tr AObj).get b=none:=by cases b<;>rfl
 rw[hn];simp
theorem jg{h2:AHeap}:∀(l:List AObj) (i j:Nat) (o:AObj),zjB h2 (bn i) l=true→l[j]? = some o→∃cs st,o=.cells cs st∧h2.t.get (bn (i+j))=some (.cells cs st)
 | [],i,j,o,e,hj=>by simp at hj
 |x::l,i,j,o,e,hj=>by
  cases x with
  |cells cs st=>
   unfold zjB at e;split at e
   ·rename_i cs' st' hb;obtain⟨e1,e2⟩:=and2 e;obtain⟨e1,e3⟩:=and2 e1;cases j with
    |zero=>
     simp only[List.getElem?_cons_zero,Option.some.injEq]at hj;exact⟨cs,st,hj.symm,by rw[zf9 e1,beq_true e3];exact hb⟩
    |succ j=>
     rw[j7]at e2;obtain⟨cs2,st2,k1,k2⟩:=jg l (i+1) j o e2 (by simpa using hj)
     exact⟨cs2,st2,k1,by rwa [show i+(j+1)=i+1+j by omega]⟩
   ·cases e
  |_=>cases e
theorem jR{φ ψ:Phi}{c:CVal}(hp:xk c=true):zi φ c=zi ψ c:=by cases c<;>first|rfl|cases hp
theorem zaZ{n:Nat}{c:CVal}(hp:xk c=true):wfC φ n c:=by cases c<;>first|trivial|cases hp
theorem zaY{φ ψ:Phi}{v:SVal}(hp:zg2 v=true):zB φ v=zB ψ v:=by
 cases v with
 |one c=>exact jR hp
 |agg cs=>
  simp only[zB]
  congr 2
  exact List.map_congr_left fun c hc=>jR (List.all_eq_true.1 hp c hc)
theorem zen{n:Nat}{v:SVal}(hp:zg2 v=true):wfS φ n v:=by
 cases v with
 |one c=>exact zaZ hp
 |agg cs=>exact fun c hc=>zaZ (List.all_eq_true.1 hp c hc)
theorem zfC{φ ψ:Phi}{v:AVal}(hp:wc v=true):zp φ v=zp ψ v:=by
 cases v with
 |s v=>exact zaY hp
 |tup vs=>
  simp only[zp]
  congr 2
  exact List.map_congr_left fun c hc=>zaY (List.all_eq_true.1 hp c hc)
theorem zjZ{n:Nat}{v:AVal}(hp:wc v=true):wfA φ n v:=by
 cases v with
 |s v=>exact zen hp
 |tup vs=>exact fun c hc=>zen (List.all_eq_true.1 hp c hc)
def jf(P:Program)(s:Sum):Prop:=∃call,y8 P call∧s.chk call=true
theorem zqA{s:Sum}(hs:jf P s){args:List AVal}(H:HRel w0 S φ h w)(hw:∀x∈args,wfA φ h.n.toNat x)(hf:s.fits args h=true):
  (∀as w,(callFunc s.g as).run P w=.ok (.enter s.g as) w)∧CallsIn (FR none) 0 P s.g (args.map (zp φ)).toArray w (Ret w0 S φ h s.res h):=by
 obtain⟨call,C,hchk⟩:=hs;obtain⟨ρ,hargs,hinj,hpair,hall⟩:=xp hf;unfold Sum.chk at hchk;split at hchk
 ·rename_i v h2 hcall;obtain⟨e1,e2⟩:=and2 hchk;obtain⟨e1,e3⟩:=and2 e1;have hv:=zhG e1;subst hv;have hn:s.heap.n.toNat=s.objs.length:=zD _;have hlt:∀b b',ρ.get b=some b'→b.toNat<s.heap.n.toNat:=by
   intro b b' hb;obtain⟨cs,cs',st,h1,_⟩:=hpair b b' hb;rw[zaE]at h1;rw[hn];exact(Lz0.1 h1).1
  have hin:∀b o,s.heap.t.get b=some o→∃b' cs cs' st,ρ.get b=some b'∧o=.cells cs st∧h.t.get b'=some (.cells cs' st)∧RCs ρ cs cs':=by
   intro b o hb;have hb':=hb;rw[zaE]at hb';obtain⟨b',hρ⟩:=qj s.objs 0 b.toNat o hall hb';rw[Nat.zero_add,zL]at hρ;obtain⟨cs,cs',st,h1,h3,h4⟩:=hpair b b' hρ;rw[hb]at h1;exact⟨b',cs,cs',st,hρ,Option.some.inj h1,h3,h4⟩
  obtain⟨hconc,hwf⟩:=zlK (φ:=φ) (n:=h.n.toNat) (m:=s.heap.n.toNat) hlt hargs hw;have HC:HRel w (fun k=>∃b b',ρ.get b=some b'∧k=(φ b').blk) (via ρ φ) s.heap w:=by
   refine⟨fun b o hb=>?_,fun b o hb=>?_,fun b o hb=>?_,fun b c o o' hb hc _ _ hh=>?_,fun b o hb _=>?_,rfl,rfl,rfl,LzB _,LzB _,fun _ _ _=>rfl,H.glob,fun b o hb _=>?_,fun b o hb _=>?_⟩
   ·rw[zaE]at hb;rw[hn];exact(Lz0.1 hb).1
   ·obtain⟨b',cs,cs',st,hρ,rfl,hb',hr⟩:=hin b o hb;rw[yW hρ];exact H.okb b' _ hb'
   ·obtain⟨b',cs,cs',st,hρ,rfl,hb',hr⟩:=hin b o hb;obtain⟨arr,e,g1,g2,g3,g4⟩:=H.obj b' _ hb';refine⟨arr,e,by rw[yW hρ];exact g1,fun i c hc=>?_,by rw[yW hρ];exact g3,fun c hc=>?_⟩
    ·obtain⟨c',k1,k2⟩:=hr.2 i c hc;rw[yW hρ,←qR k2];exact g2 i c' k1
    ·obtain⟨i,hi⟩:=List.mem_iff_getElem?.1 hc;obtain⟨c',k1,k2⟩:=hr.2 i c hi;exact zi5 hlt k2 (g4 c' (Lz3 k1))
   ·obtain⟨b',cs,cs',st,hρ,rfl,hb',_⟩:=hin b o hb;obtain⟨c',ds,ds',st2,hρc,rfl,hc',_⟩:=hin c o' hc;rw[yW hρ,yW hρc]at hh;have:=H.inj b' c' _ _ hb' hc' trivial trivial hh;subst this;exact hinj b c b' hρ hρc
   ·obtain⟨b',cs,cs',st,hρ,rfl,hb',_⟩:=hin b o hb;exact .inl ⟨b,b',hρ,by rw[yW hρ]⟩
   ·obtain⟨b',cs,cs',st,hρ,rfl,hb',_⟩:=hin b o hb;rw[yW hρ];exact H.flat b' _ hb' trivial
   ·obtain⟨b',cs,cs',st,hρ,rfl,hb',_⟩:=hin b o hb;rw[yW hρ];exact H.ng b' _ hb' trivial
  obtain⟨hcf,hcl⟩:=(C w _ _ _ w _ _ h2 HC hwf).1 s.g hcall;refine⟨hcf,?_⟩;rw[hconc];refine hcl.mono ?_
  rintro e9 w9 ⟨φ2,rfl,he,H2,_,hle⟩
  refine⟨φ,by rw[zfC (ψ:=φ) e3],Ext.refl _ _,?_,zjZ e3,LzB _⟩
  have hkeep:∀k,k<w.heap.size→(¬∃b b',ρ.get b=some b'∧k=(φ b').blk)→w9.heap[k]? = w.heap[k]?:=fun k hk hS=>H2.kept k hk hS
  refine⟨H.keys,H.okb,fun b o hb=>?_,H.inj,H.own,H2.os.trans H.os,H2.tape.trans H.tape,H2.output.trans H.output,Nat.le_trans H.size H2.size,Nat.le_trans H.drawn H2.drawn,fun k hk hS=>?_,H2.glob,H.flat,H.ng⟩
  ·by_cases hl:live o
   ·by_cases hm:∃c c',ρ.get c=some c'∧(φ b).blk=(φ c').blk
    ·obtain⟨c,c',hρ,hblk⟩:=hm;obtain⟨cs,cs',st,k1,k2,k3⟩:=hpair c c' hρ;have:=H.inj b c' _ _ hb k2 hl trivial hblk;subst this;cases hb.symm.trans k2;have k1':=k1;rw[zaE]at k1';obtain⟨cs2,st2,q1,q2⟩:=jg s.objs 0 c.toNat _ e2 k1';rw[Nat.zero_add,zL]at q2;cases q1;obtain⟨arr,e,g1,g2,g3,g4⟩:=H2.obj c _ q2;have ec:φ2 c=φ b:=(he c (hlt _ _ hρ)).trans (yW hρ);obtain⟨_,_,_,_,_,o4⟩:=H.obj b _ hb;refine⟨arr,e,by rw[←ec];exact g1,fun i x hx=>?_,by rw[←ec];exact g3,o4⟩
     have hi:i<cs.length:=by
      have:=(Lz0.1 hx).1;have:=k3.1;omega
     obtain⟨x',j1,j2⟩:=k3.2 i cs[i] (Lz5 hi);rw[hx]at j1;cases j1;have:=g2 i cs[i] (Lz5 hi);rw[ec]at this;rw[this,qR j2];have hwc:wfC (via ρ φ) s.heap.n.toNat cs[i]:=zi5 hlt j2 (o4 x (Lz3 hx));rw[vg he hwc]
    ·exact(H.obj b o hb).world fun _=>hkeep _ ((H.obj b o hb).there hl) (fun⟨c,c',h1,h2⟩=>hm ⟨c,c',h1,h2⟩)
   ·exact(H.obj b o hb).world fun hh=>absurd hh hl
  ·by_cases hm:∃c c',ρ.get c=some c'∧k=(φ c').blk
   ·obtain⟨c,c',hρ,rfl⟩:=hm;obtain⟨cs,cs',st,_,k2,_⟩:=hpair c c' hρ;rcases H.own c' _ k2 trivial with h1|h1
    ·exact absurd h1 hS
    ·omega
   ·rw[hkeep k (Lz9 hk H.size) hm];exact H.kept k hk hS
 ·cases hchk
theorem zcA{g:Nat}{args:List AVal}{v:AVal}:∀(l:List Sum),xQ g args h l=some v→∃s∈l,s.g=g∧s.fits args h=true∧s.res=v
 | [],e=>by cases e
 |s::l,e=>by
  unfold xQ at e;cases hq:(Nat.beq g s.g&&s.fits args h) with
  |true=>
   rw[hq]at e;obtain⟨h1,h2⟩:=and2 hq;exact⟨s,by simp,(beq_true h1).symm,h2,Option.some.inj e⟩
  |false=>
   rw[hq]at e;obtain⟨s',k1,k2⟩:=zcA l e;exact⟨s',by simp[k1],k2⟩
theorem zgF{sums:List Sum}(hs:∀s∈sums,jf P s){call:zh}(C:y8 P call):y8 P (zd3 sums call):=by
 intro w0 S φ h w args v h2 H hw;refine⟨fun g e=>?_,fun l e=>(C w0 S φ h w args v h2 H hw).2 l e⟩
 unfold zd3 at e;simp only at e;split at e
 ·rename_i v' hf;cases e;obtain⟨s,h1,rfl,h3,rfl⟩:=zcA sums hf;exact zqA (hs s h1) H hw h3
 ·exact(C w0 S φ h w args v h2 H hw).1 g e
theorem zdX{fs:Nat→Option RFunc}(hfs:FsOk P fs){sums:List Sum}(hs:∀s∈sums,jf P s):∀n,y8 P (yu (z5 P) fs sums n)
 |0=>zfL
 |n+1=>zgF hs (zgw (zdX hfs hs n) hfs n)
theorem zl8{call:zh}(C:y8 P call){f:Nat}{c:CVal}{h2:AHeap}(e:call (.inl f) [] ⟨.z,.nil⟩=some (.s (.one c),h2))(w:World)(hG:GOk w):
  (∀as w,(callFunc f as).run P w=.ok (.enter f as) w)∧CallsIn (FR none) 0 P f #[] w (fun e w2=>∃φ,e=.returned (zi φ c)∧Below w.heap.size w w2):=by
 have H:HRel w (fun _=>False) (fun _=>⟨0,0,0,true,none⟩) ⟨.z,.nil⟩ w:=by
  have hnil:∀b,(Tr.nil:Tr AObj).get b=none:=by intro b;cases b<;>rfl
  refine⟨?_,?_,?_,?_,?_,rfl,rfl,rfl,LzB _,LzB _,fun _ _ _=>rfl,hG,?_,?_⟩
  ·intro b o hb;rw[hnil]at hb;cases hb
  ·intro b o hb;rfl
  ·intro b o hb;rw[hnil]at hb;cases hb
  ·intro b b' o o' hb;rw[hnil]at hb;cases hb
  ·intro b o hb;rw[hnil]at hb;cases hb
  ·intro b o hb;rw[hnil]at hb;cases hb
  ·intro b o hb;rw[hnil]at hb;cases hb
 have:=(C w _ _ _ w [] _ h2 H (fun x hx=>by cases hx)).1 f e
 refine⟨this.1,this.2.mono ?_⟩
 rintro e9 w9 ⟨φ2,rfl,he,H2,_,_⟩
 exact⟨φ2,rfl,⟨H2.os,H2.tape,H2.output,H2.size,fun k hk=>H2.kept k hk (fun hh=>hh)⟩⟩
end
end Go.CE
end
section
namespace Go.CE
noncomputable section
abbrev Fr:=Nat→AVal
def frOf(t:Tr AVal):Fr:=fun i=>tmpF (bn i) t
def coK(r:Fr):Operand→Option Opd
 | .tmp t=>some (zr (r t))
 | .const v=>match cVal v with|some s=>some (zr (.s s))|none=>none
 | .func f=>some (zr (.s (.one (.fn f []))))
 | .global g=>match kT g with|some _=>some (zr (.s (.one (.gptr g 0))))|none=>none
def jK(co:Operand→Option Opd):List Operand→Option (List Opd)
 | []=>some []
 |x::xs=>
  match co x,jK co xs with
  |some y,some ys=>some (y::ys)
  |_,_=>none
def qL(co:Operand→Option Opd):Option Operand→Option (Option Opd)
 |none=>some none
 |some x=>match co x with|some y=>some (some y)|none=>none
section
variable (P:Program)
def xR(co:Operand→Option Opd)(fs:Array Field):List (Nat×Operand)→Option (List (Nat×Nat×Opd))
 | []=>some []
 |(i,x)::r=>
  match fs[i]?,co x,xR co fs r with
  |some f,some y,some rest=>
   match P.info? f.type with
   |some info=>some ((f.offset,info.size,y)::rest)
   |none=>none
  |_,_,_=>none
def xU(co:Operand→Option Opd)(size:Nat):List (Nat×Operand)→Option (List (Nat×Nat×Opd))
 | []=>some []
 |(i,x)::r=>
  match co x,xU co size r with
  |some y,some rest=>some ((i*size,size,y)::rest)
  |_,_=>none
def cOpG(co:Operand→Option Opd)(o:Op):OpFn:=zY <| match o with
 | .move x | .assign x=>(co x).map opMv
 | .pick c a b=>do pure (uH (←co c) (←co a) (←co b))
 | .alloc t=>bif kN P t then do pure (zaB t (←z9 P t).cells) else do pure (zbb (←z9 P t).cells)
 | .box _ x=>do pure (zbT (←co x))
 | .build t parts=>
  match P.underlying t,z9 P t with
  |some (.struct fs),some z=>bif j9 P fs.toList then do pure (w8 z.cells (←xR P co fs parts.toList)) else none
  |some (.array _ e),some z=>
   match P.info? e with
   |some i=>do pure (w8 z.cells (←xU co i.size parts.toList))
   |none=>none
  |_,_=>none
 | .buildSlice t len parts=>
  match P.underlying t with
  |some (.slice e)=>
   match P.info? e with
   |some i=>
    bif Nat.ble (len*i.size) 16777216 then
     match (bif Nat.beq (len*i.size) 0 then some [] else(z9 P e).map SVal.cells) with
     |some zs=>bif Nat.beq (len*i.size) 0||Nat.beq zs.length i.size then do pure (wm i.size len (repl zs len) (←xU co i.size parts.toList)) else none
     |none=>none
    else none
   |none=>none
  |_=>none
 | .load t x=>do pure (uK (←xN P t) (←co x))
 | .store t x v=>do pure (qp (←P.info? t).size (←co x) (←co v))
 | .nilCheck x=>do pure (wX (←co x))
 | .binOp op t x y _=>
  match P.underlying t with
  |some (.int _)=>
   match op with
   | .shl=>do pure (wg zdG (←co x) (←co y))
   | .shr=>do pure (wg zdF (←co x) (←co y))
   |op=>do pure (zao (vK op) (←co x) (←co y))
  |some .string=>do pure (za5 op (←co x) (←co y))
  |some (.slice _)=>
   match op with
   | .eql=>do pure (vS false (←co x) (←co y))
   | .neq=>do pure (vS true (←co x) (←co y))
   |_=>none
  |some (.pointer e)=>
   bif xO P e then
   match op with
   | .eql=>do pure (wW false (←co x) (←co y))
   | .neq=>do pure (wW true (←co x) (←co y))
   |_=>none
   else none
  |some (.func _ _ _)=>
   match op with
   | .eql=>do pure (uI false (←co x) (←co y))
   | .neq=>do pure (uI true (←co x) (←co y))
   |_=>none
  |some _=>
   bif P.eqGuardType P.depth t then none else
   match op with
   | .eql=>do pure (opEq (←keyT P t) false (←co x) (←co y))
   | .neq=>do pure (opEq (←keyT P t) true (←co x) (←co y))
   |_=>none
  |none=>none
 | .unOp .not _ x=>do pure (za6 (←co x))
 | .unOp .neg _ x=>do pure (za7 (←co x))
 | .convert s d x=>
  match P.underlying s,P.underlying d with
  |some (.int _),some (.int k)=>do pure (uO k (←co x))
  |some .string,some (.slice e)=>bif yE P e then do pure (ziy (←co x)) else none
  |some (.slice e),some .string=>bif yE P e then do pure (kH (←co x)) else none
  |some (.pointer e),some .unsafePointer=>bif xO P e then do pure (zdk (←co x)) else none
  |some .unsafePointer,some (.pointer u)=>bif ziL P u then do pure (zdj u (P.cellsOf u) (←co x)) else none
  |_,_=>none
 | .makeFunc (.func f) first captured=>bif first.isEmpty then do pure (uJ f (←jK co captured.toList)) else none
 | .makeMap _ none=>some za9
 | .makeSlice t l c=>
  match P.underlying t with
  |some (.slice e)=>
   match P.info? e,z9 P e with
   |some i,some z=>bif Nat.beq z.cells.length i.size && !Nat.beq i.size 0 then do pure (xI i.size z.cells i.bytes (←co l) (←co c)) else none
   |_,_=>none
  |_=>none
 | .slice t x lo hi mx=>
  match P.underlying t with
  |some (.slice e)=>
   match P.info? e with
   |some i=>bif mx.isSome && !hi.isSome then none else do pure (wV i.size (←co x) (←qL co lo) (←qL co hi) (←qL co mx))
   |none=>none
  |some (.array n e)=>
   match P.info? e with
   |some i=>bif mx.isSome && !hi.isSome then none else do pure (wH n i.size (←co x) (←qL co lo) (←qL co hi) (←qL co mx))
   |none=>none
  |some .string=>bif mx.isSome then none else do pure (xy (←co x) (←qL co lo) (←qL co hi))
  |_=>none
 | .fieldAddr t x f=>
  match P.underlying t with
  |some (.struct fs)=>
   match fs[f]? with
   |some fd=>
    match P.info? fd.type with
    |some i=>bif Nat.beq i.size 0 then none else do pure (uN (←co x) fd.offset)
    |none=>none
   |none=>none
  |_=>none
 | .field t x f=>
  match P.underlying t with
  |some (.struct fs)=>
   match fs[f]? with
   |some fd=>do pure (w7 (←co x) fd.offset (←xN P fd.type))
   |none=>none
  |_=>none
 | .indexAddr t x i=>
  match P.underlying t with
  |some (.slice e)=>
   match P.info? e with
   |some info=>do pure (zba info.size (←co x) (←co i))
   |none=>none
  |some (.array len e)=>
   match P.info? e with
   |some info=>do pure (wZ len info.size (←co x) (←co i))
   |none=>none
  |_=>none
 | .index t x i=>
  match P.underlying t with
  |some (.array len e)=>
   match P.info? e with
   |some info=>do pure (w6 len info.size (←xN P e) (←co x) (←co i))
   |none=>none
  |some .string=>do pure (wY (←co x) (←co i))
  |_=>none
 | .lookup t m k ok=>
  match P.underlying t with
  |some (.map key e)=>do pure (wl (←keyT P key) (←z9 P e) ok (←co m) (←co k))
  |_=>none
 | .mapUpdate t m k v | .insert t m k v=>
  match P.underlying t with
  |some (.map key _)=>do pure (za8 (←keyT P key) (←co m) (←co k) (←co v))
  |_=>none
 | .mapEntry t m k=>
  match P.underlying t with
  |some (.map key e)=>do pure (kF (←keyT P key) (←z9 P e) (←co m) (←co k))
  |_=>none
 | .entryStore _ m s v=>do pure (kG (←co m) (←co s) (←co v))
 | .extract x i=>do pure (xl (←co x) i)
 | .call c=>
  match c.callee with
  | .value f=>
   bif Nat.beq (jX P f) 0 then do pure (zck (←co f) (←jK co c.args.toList)) else cExt co (jX P f) c.args.toList
  | .builtin .unsafeSliceData=>
   match c.args.toList with
   | [x]=>do pure (wU (←co x))
   |_=>none
  | .builtin .unsafeString=>
   match c.argTypes.toList,c.args.toList with
   | [pt,_],[x,n]=>
    match P.underlying pt with
    |some (.pointer e)=>bif yE P e&&Nat.beq (P.cellsOf e) 1 then do pure (zew e (←co x) (←co n)) else none
    |_=>none
   |_,_=>none
  | .builtin .cap=>
   match c.argTypes[0]?,c.args[0]? with
   |some t,some x=>
    match P.underlying t with
    |some (.slice _)=>do pure (zj7 (←co x))
    |_=>none
   |_,_=>none
  | .builtin .copy=>
   match c.argTypes.toList,c.args.toList with
   | [t,t2],[d,s]=>
    match P.underlying t,P.underlying t2 with
    |some (.slice e),some (.slice _)=>
     match P.info? e with
     |some i=>bif Nat.beq i.size 0 then none else do pure (zex i.size (←co d) (←co s))
     |none=>none
    |_,_=>none
   |_,_=>none
  | .builtin .len=>
   match c.argTypes[0]?,c.args[0]? with
   |some t,some x=>
    match P.underlying t with
    |some .string=>do pure (uL (←co x))
    |some (.slice _)=>do pure (uM (←co x))
    |some (.map _ _)=>do pure (jE (←co x))
    |some (.array n _)=>some (opMv (zr (.s (.one (.int .i64 (.ofNat n))))))
    |_=>none
   |_,_=>none
  | .builtin .append=>
   match c.argTypes.toList,c.args.toList with
   | [t,t2],[s,x]=>
    match P.underlying t with
    |some (.slice e)=>
     match P.info? e,z9 P e with
     |some i,some z=>
      bif Nat.beq z.cells.length i.size && !Nat.beq i.size 0 then
       match P.underlying t2 with
       |some (.slice _)=>bif yE P e&&Nat.beq i.size 1 then do pure (uQ e i.bytes (←co s) (←co x)) else do pure (xz false i.size i.bytes (←co s) (←co x))
       |some .string=>bif Nat.beq i.size 1 then do pure (uP e i.bytes (←co s) (←co x)) else none
       |_=>none
      else none
     |_,_=>none
    |_=>none
   |_,_=>none
  | .builtin .clear=>
   match c.argTypes[0]?,c.args[0]? with
   |some t,some x=>
    match P.underlying t with
    |some (.slice e)=>
     match P.info? e,z9 P e with
     |some i,some z=>bif Nat.beq z.cells.length i.size && !Nat.beq i.size 0 then do pure (qr i.size z.cells (←co x)) else none
     |_,_=>none
    |_=>none
   |_,_=>none
  | .builtin .max=>
   match jK co c.args.toList with
   |some (x::xs)=>some (y0 true x xs)
   |_=>none
  | .builtin .min=>
   match jK co c.args.toList with
   |some (x::xs)=>some (y0 false x xs)
   |_=>none
  |_=>none
 |_=>none
end
end
section
variable {P:Program} {t:Tr AVal}
def OR(t:Tr AVal)(a b:Option Opd):Prop:=(a=none∧b=none)∨∃x y,a=some x∧b=some y∧x .nil=y t
theorem zG(x:Operand):OR t (coK (frOf t) x) (cOpd x):=by
 cases x with
 |tmp i=>exact .inr ⟨_,_,rfl,rfl,rfl⟩
 |const v=>
  simp only[coK,cOpd];cases cVal v with
  |none=>exact .inl ⟨rfl,rfl⟩
  |some s=>exact .inr ⟨_,_,rfl,rfl,rfl⟩
 |func f=>exact .inr ⟨_,_,rfl,rfl,rfl⟩
 |global g=>
  simp only[coK,cOpd];cases kT g with
  |none=>exact .inl ⟨rfl,rfl⟩
  |some q=>exact .inr ⟨_,_,rfl,rfl,rfl⟩
def LR(t:Tr AVal):List Opd→List Opd→Prop
 | [],[]=>True
 |x::xs,y::ys=>x .nil=y t∧LR t xs ys
 |_,_=>False
theorem zbC:∀l:List Operand,(jK (coK (frOf t)) l=none∧vN l=none)∨∃xs ys,jK (coK (frOf t)) l=some xs∧vN l=some ys∧LR t xs ys
 | []=>.inr ⟨[],[],rfl,rfl,trivial⟩
 |x::l=>by
  simp only[jK,vN];rcases zG (t:=t) x with⟨h1,h2⟩|⟨a,b,h1,h2,h3⟩
  ·rw[h1,h2];exact .inl ⟨rfl,rfl⟩
  ·rw[h1,h2];rcases zbC l with⟨k1,k2⟩|⟨as,bs,k1,k2,k3⟩
   ·rw[k1,k2];exact .inl ⟨rfl,rfl⟩
   ·rw[k1,k2];exact .inr ⟨_,_,rfl,rfl,h3,k3⟩
def PR(t:Tr AVal):List (Nat×Nat×Opd)→List (Nat×Nat×Opd)→Prop
 | [],[]=>True
 |x::xs,y::ys=>x.1=y.1∧x.2.1=y.2.1∧x.2.2 .nil=y.2.2 t∧PR t xs ys
 |_,_=>False
theorem jG(fs:Array Field):∀l:List (Nat×Operand),(xR P (coK (frOf t)) fs l=none∧xE P fs l=none)∨∃xs ys,xR P (coK (frOf t)) fs l=some xs∧xE P fs l=some ys∧PR t xs ys
 | []=>.inr ⟨[],[],rfl,rfl,trivial⟩
 |(i,x)::l=>by
  simp only[xR,xE];cases fs[i]? with
  |none=>exact .inl ⟨rfl,rfl⟩
  |some f=>
   rcases zG (t:=t) x with⟨h1,h2⟩|⟨a,b,h1,h2,h3⟩
   ·rw[h1,h2];exact .inl ⟨rfl,rfl⟩
   ·rw[h1,h2];rcases jG fs l with⟨k1,k2⟩|⟨as,bs,k1,k2,k3⟩
    ·rw[k1,k2];exact .inl ⟨rfl,rfl⟩
    ·rw[k1,k2];simp only;cases P.info? f.type with
     |none=>exact .inl ⟨rfl,rfl⟩
     |some i=>exact .inr ⟨_,_,rfl,rfl,rfl,rfl,h3,k3⟩
theorem ut(n:Nat):∀l:List (Nat×Operand),(xU (coK (frOf t)) n l=none∧xc n l=none)∨∃xs ys,xU (coK (frOf t)) n l=some xs∧xc n l=some ys∧PR t xs ys
 | []=>.inr ⟨[],[],rfl,rfl,trivial⟩
 |(i,x)::l=>by
  simp only[xU,xc];rcases zG (t:=t) x with⟨h1,h2⟩|⟨a,b,h1,h2,h3⟩
  ·rw[h1,h2];exact .inl ⟨rfl,rfl⟩
  ·rw[h1,h2];rcases ut n l with⟨k1,k2⟩|⟨as,bs,k1,k2,k3⟩
   ·rw[k1,k2];exact .inl ⟨rfl,rfl⟩
   ·rw[k1,k2];exact .inr ⟨_,_,rfl,rfl,rfl,rfl,h3,k3⟩
theorem kY:∀(xs ys:List (Nat×Nat×Opd)) (cs:List CVal),PR t xs ys→kZ .nil xs cs=kZ t ys cs
 | [],[],_,_=>rfl
 |(a,b,x)::xs,(a',b',y)::ys,cs,⟨h1,h2,h3,h4⟩=>by
  simp only at h1 h2 h3;subst h1 h2;simp only[kZ];rw[h3];cases y t with
  |tup _=>rfl
  |s v=>
   simp only;cases uS v.cells b with
   |false=>rfl
   |true=>
    simp only[cond_true];cases putAt v.cells cs a with
    |none=>rfl
    |some cs'=>exact kY xs ys cs' h4
theorem zkF:∀(xs ys:List Opd),LR t xs ys→xs.map (fun x=>x .nil)=ys.map (fun x=>x t)
 | [],[],_=>rfl
 |x::xs,y::ys,⟨h1,h2⟩=>by rw[List.map_cons,List.map_cons,h1,zkF xs ys h2]
theorem zg0:∀(xs ys:List Opd),LR t xs ys→ptrs .nil xs=ptrs t ys
 | [],[],_=>rfl
 |x::xs,y::ys,⟨h1,h2⟩=>by simp only[ptrs];rw[h1,zg0 xs ys h2]
theorem zdo(m:Bool)(k:IntKind):∀(xs ys:List Opd) (z:Int),LR t xs ys→minI m k .nil xs z=minI m k t ys z
 | [],[],_,_=>rfl
 |x::xs,y::ys,z,⟨h1,h2⟩=>by
  simp only[minI];rw[h1];split
  ·rename_i k' y' _;cases eqK k k' with
   |false=>rfl
   |true=>exact zdo m k xs ys _ h2
  ·rfl
def QR(t:Tr AVal)(a b:Option Opd):Prop:=(a=none∧b=none)∨∃x y,a=some x∧b=some y∧x .nil=y t
theorem QR.bnd{a b:Option Opd}(h:QR t a b)(d y:Nat):bnd .nil a d y=CE.bnd t b d y:=by
 rcases h with⟨rfl,rfl⟩|⟨x,z,rfl,rfl,h⟩
 ·rfl
 ·simp only[CE.bnd];rw[h]
theorem uG(x:Option Operand):(qL (coK (frOf t)) x=none∧cOpt x=none)∨∃a b,qL (coK (frOf t)) x=some a∧cOpt x=some b∧QR t a b:=by
 cases x with
 |none=>exact .inr ⟨none,none,rfl,rfl,.inl ⟨rfl,rfl⟩⟩
 |some x=>
  simp only[qL,cOpt];rcases zG (t:=t) x with⟨h1,h2⟩|⟨a,b,h1,h2,h3⟩
  ·rw[h1,h2];exact .inl ⟨rfl,rfl⟩
  ·rw[h1,h2];exact .inr ⟨_,_,rfl,rfl,.inr ⟨_,_,rfl,rfl,h3⟩⟩
theorem zfx{lo hi mx lo' hi' mx':Option Opd}(h1:QR t lo lo')(h2:QR t hi hi')(h3:QR t mx mx')(st:Nat)(h:AHeap)(b:BN)(off len cap:Nat):
  y9 st lo hi mx .nil h b off len cap=y9 st lo' hi' mx' t h b off len cap:=by
 have e1:=h1.bnd;have e2:=h2.bnd;have e3:=h3.bnd;rcases h3 with⟨rfl,rfl⟩|⟨x,z,rfl,rfl,h⟩
 ·simp only[y9,e2,e1]
 ·rcases h2 with⟨rfl,rfl⟩|⟨x',z',rfl,rfl,h'⟩
  ·simp only[y9,e3]
  ·simp only[y9,e3,e2,e1]
variable (call:zh) (h:AHeap)
theorem zlB(o:Op):cOpG P (coK (frOf t)) o call .nil h=cOp P o call t h:=by
 cases o with
 |move x=>rcases zG (t:=t) x with⟨h1,h2⟩|⟨a,b,h1,h2,h3⟩<;>simp only[cOpG,cOp,zY,Option.map_none,Option.map_some,opMv,yV, *]
 |assign x=>rcases zG (t:=t) x with⟨h1,h2⟩|⟨a,b,h1,h2,h3⟩<;>simp only[cOpG,cOp,zY,Option.map_none,Option.map_some,opMv,yV, *]
 |pick c a b=>
  rcases zG (t:=t) c with⟨h1c,h2c⟩|⟨oac,obc,h1c,h2c,h3c⟩<;>rcases zG (t:=t) a with⟨h1a,h2a⟩|⟨oaa,oba,h1a,h2a,h3a⟩<;>rcases zG (t:=t) b with⟨h1b,h2b⟩|⟨oab,obb,h1b,h2b,h3b⟩<;>simp[cOpG,cOp,zY,yV,uH, *]
 |alloc ty=>
  simp only[cOpG,cOp];cases kN P ty<;>cases z9 P ty<;>rfl
 |box ty x=>
  rcases zG (t:=t) x with⟨h1,h2⟩|⟨a,b,h1,h2,h3⟩<;>simp[cOpG,cOp,zY,yV,zbT, *]
 |build ty parts=>
  simp only[cOpG,cOp];cases P.underlying ty with
  |none=>rfl
  |some u=>
   cases z9 P ty with
   |none=>cases u<;>rfl
   |some z=>
    cases u with
    |struct fs=>
     simp only;cases j9 P fs.toList with
     |false=>rfl
     |true=>
      rcases jG (P:=P) (t:=t) fs parts.toList with⟨h1,h2⟩|⟨xs,ys,h1,h2,h3⟩
      ·simp only[cond_true,h1,h2];rfl
      ·simp only[cond_true,h1,h2,Option.bind_eq_bind,Option.bind_some,Option.pure_def,zY,w8,kY _ _ _ h3]
    |array n e=>
     simp only;cases P.info? e with
     |none=>rfl
     |some i=>
      rcases ut (t:=t) i.size parts.toList with⟨h1,h2⟩|⟨xs,ys,h1,h2,h3⟩
      ·simp only[h1,h2];rfl
      ·simp only[h1,h2,Option.bind_eq_bind,Option.bind_some,Option.pure_def,zY,w8,kY _ _ _ h3]
    |_=>rfl
 |buildSlice ty len parts=>
  simp only[cOpG,cOp];cases P.underlying ty with
  |none=>rfl
  |some u=>
   cases u with
   |slice e=>
    simp only;cases P.info? e with
    |none=>rfl
    |some i=>
     simp only;cases Nat.ble (len*i.size) 16777216 with
     |false=>rfl
     |true=>
      simp only[cond_true];generalize (bif Nat.beq (len*i.size) 0 then some [] else(z9 P e).map SVal.cells)=q
      cases q with
      |none=>rfl
      |some zs=>
       simp only;generalize (Nat.beq (len*i.size) 0||Nat.beq zs.length i.size)=q2
       cases q2 with
       |false=>rfl
       |true=>
        rcases ut (t:=t) i.size parts.toList with⟨h1,h2⟩|⟨xs,ys,h1,h2,h3⟩
        ·simp only[cond_true,h1,h2];rfl
        ·simp only[cond_true,h1,h2,Option.bind_eq_bind,Option.bind_some,Option.pure_def,zY,wm,kY _ _ _ h3]
   |_=>rfl
 |load ty x=>
  simp only[cOpG,cOp];cases xN P ty with
  |none=>rfl
  |some n=>
   rcases zG (t:=t) x with⟨h1,h2⟩|⟨a,b,h1,h2,h3⟩<;>simp[zY,yV,uK, *]
 |store ty x v=>
  simp only[cOpG,cOp];cases P.info? ty with
  |none=>rfl
  |some n=>
   rcases zG (t:=t) x with⟨h1x,h2x⟩|⟨oax,obx,h1x,h2x,h3x⟩<;>rcases zG (t:=t) v with⟨h1v,h2v⟩|⟨oav,obv,h1v,h2v,h3v⟩<;>simp[zY,yV,qp, *]
 |nilCheck x=>
  rcases zG (t:=t) x with⟨h1,h2⟩|⟨a,b,h1,h2,h3⟩<;>simp[cOpG,cOp,zY,yV,wX, *]
 |binOp op ty x y ty2=>
  simp only[cOpG,cOp];cases P.underlying ty with
  |none=>rfl
  |some u=>
   by_cases hu:∃te,u=.pointer te
   ·obtain⟨te,rfl⟩:=hu;simp only;cases xO P te with
    |false=>rfl
    |true=>rcases zG (t:=t) x with⟨h1x,h2x⟩|⟨oax,obx,h1x,h2x,h3x⟩<;>rcases zG (t:=t) y with⟨h1y,h2y⟩|⟨oay,oby,h1y,h2y,h3y⟩<;>cases op<;>first|rfl|simp[zY,yV,wW, *]
   ·rcases zG (t:=t) x with⟨h1x,h2x⟩|⟨oax,obx,h1x,h2x,h3x⟩<;>rcases zG (t:=t) y with⟨h1y,h2y⟩|⟨oay,oby,h1y,h2y,h3y⟩<;>simp only[h1x,h2x,h1y,h2y]
    all_goals (cases u<;>first|rfl|(exfalso;exact hu ⟨_,rfl⟩)|skip)
    all_goals (clear hu)
    all_goals (try generalize P.eqGuardType P.depth ty=q)
    all_goals (try generalize keyT P ty=q2)
    all_goals (cases op<;>first|rfl|simp only[Option.bind_eq_bind,Option.bind_some,Option.bind_none,Option.pure_def,zY,zao,wg,za5,vS,uI, *])
    all_goals (cases q<;>first|rfl|skip)
    all_goals (cases q2<;>first|rfl|simp only[cond_false,Option.bind_some,opEq, *])
 |unOp op ty x=>
  cases op<;>first|rfl|(rcases zG (t:=t) x with⟨h1,h2⟩|⟨a,b,h1,h2,h3⟩<;>simp[cOpG,cOp,zY,yV,za6,za7, *])
 |convert s d x=>
  simp only[cOpG,cOp];cases P.underlying s with
  |none=>rfl
  |some u=>
   cases P.underlying d with
   |none=>cases u<;>rfl
   |some u2=>
    cases u<;>first|rfl|skip
    all_goals (cases u2<;>first|rfl|skip)
    case string.slice el=>cases hb:yE P el<;>rcases zG (t:=t) x with⟨h1,h2⟩|⟨a,b,h1,h2,h3⟩<;>simp[zY,yV,ziy, *]
    case slice.string el=>cases hb:yE P el<;>rcases zG (t:=t) x with⟨h1,h2⟩|⟨a,b,h1,h2,h3⟩<;>simp[zY,yV,kH, *]
    case pointer.unsafePointer el=>cases hb:xO P el<;>rcases zG (t:=t) x with⟨h1,h2⟩|⟨a,b,h1,h2,h3⟩<;>simp[zY,yV,zdk, *]
    case unsafePointer.pointer el=>cases hb:ziL P el<;>rcases zG (t:=t) x with⟨h1,h2⟩|⟨a,b,h1,h2,h3⟩<;>simp[zY,yV,zdj, *]
    all_goals (rcases zG (t:=t) x with⟨h1,h2⟩|⟨a,b,h1,h2,h3⟩<;>simp[zY,yV,uO, *])
 |makeFunc fn first captured=>
  cases fn<;>first|rfl|skip
  simp only[cOpG,cOp];cases first.isEmpty with
  |false=>rfl
  |true=>
   rcases zbC (t:=t) captured.toList with⟨h1,h2⟩|⟨xs,ys,h1,h2,h3⟩
   ·simp only[cond_true,h1,h2];rfl
   ·simp only[cond_true,h1,h2,Option.bind_eq_bind,Option.bind_some,Option.pure_def,zY,uJ,zg0 _ _ h3]
 |makeMap ty r=>
  cases r<;>rfl
 |makeSlice ty l c=>
  simp only[cOpG,cOp];cases P.underlying ty with
  |none=>rfl
  |some u=>
   cases u with
   |slice e=>
    simp only;cases P.info? e with
    |none=>rfl
    |some i=>
     cases z9 P e with
     |none=>rfl
     |some z=>
      simp only;generalize (Nat.beq z.cells.length i.size && !Nat.beq i.size 0)=q;cases q with
      |false=>rfl
      |true=>rcases zG (t:=t) l with⟨h1l,h2l⟩|⟨oal,obl,h1l,h2l,h3l⟩<;>rcases zG (t:=t) c with⟨h1c,h2c⟩|⟨oac,obc,h1c,h2c,h3c⟩<;>simp[zY,yV,xI, *]
   |_=>rfl
 |slice ty x lo hi mx=>
  simp only[cOpG,cOp];cases P.underlying ty with
  |none=>rfl
  |some u=>
   cases u with
   |slice e=>
    simp only;cases P.info? e with
    |none=>rfl
    |some i=>
     simp only;generalize (mx.isSome && !hi.isSome)=q;cases q with
     |true=>rfl
     |false=>
      rcases zG (t:=t) x with⟨h1x,h2x⟩|⟨oax,obx,h1x,h2x,h3x⟩
      ·simp only[h1x,h2x,cond_false];rfl
      ·rcases uG (t:=t) lo with⟨k1,k2⟩|⟨l1,l2,k1,k2,k3⟩
       ·simp only[h1x,h2x,k1,k2,cond_false];rfl
       ·rcases uG (t:=t) hi with⟨m1,m2⟩|⟨g1,g2,m1,m2,m3⟩
        ·simp only[h1x,h2x,k1,k2,m1,m2,cond_false];rfl
        ·rcases uG (t:=t) mx with⟨n1,n2⟩|⟨j1,j2,n1,n2,n3⟩
         ·simp only[h1x,h2x,k1,k2,m1,m2,n1,n2,cond_false];rfl
         ·simp only[h1x,h2x,k1,k2,m1,m2,n1,n2,cond_false,Option.bind_eq_bind,Option.bind_some,Option.pure_def,zY,wV,h3x,xu,xd,zfx k3 m3 n3,k3.bnd,m3.bnd,n3.bnd]
   |array len e=>
    simp only;cases P.info? e with
    |none=>rfl
    |some i=>
     simp only;generalize (mx.isSome && !hi.isSome)=q;cases q with
     |true=>rfl
     |false=>
      rcases zG (t:=t) x with⟨h1x,h2x⟩|⟨oax,obx,h1x,h2x,h3x⟩
      ·simp only[h1x,h2x,cond_false];rfl
      ·rcases uG (t:=t) lo with⟨k1,k2⟩|⟨l1,l2,k1,k2,k3⟩
       ·simp only[h1x,h2x,k1,k2,cond_false];rfl
       ·rcases uG (t:=t) hi with⟨m1,m2⟩|⟨g1,g2,m1,m2,m3⟩
        ·simp only[h1x,h2x,k1,k2,m1,m2,cond_false];rfl
        ·rcases uG (t:=t) mx with⟨n1,n2⟩|⟨j1,j2,n1,n2,n3⟩
         ·simp only[h1x,h2x,k1,k2,m1,m2,n1,n2,cond_false];rfl
         ·simp only[h1x,h2x,k1,k2,m1,m2,n1,n2,cond_false,Option.bind_eq_bind,Option.bind_some,Option.pure_def,zY,wH,h3x,xd,k3.bnd,m3.bnd,n3.bnd]
   |string=>
    simp only;cases mx.isSome with
    |true=>rfl
    |false=>
     rcases zG (t:=t) x with⟨h1x,h2x⟩|⟨oax,obx,h1x,h2x,h3x⟩
     ·simp only[h1x,h2x,cond_false];rfl
     ·rcases uG (t:=t) lo with⟨k1,k2⟩|⟨l1,l2,k1,k2,k3⟩
      ·simp only[h1x,h2x,k1,k2,cond_false];rfl
      ·rcases uG (t:=t) hi with⟨m1,m2⟩|⟨g1,g2,m1,m2,m3⟩
       ·simp only[h1x,h2x,k1,k2,m1,m2,cond_false];rfl
       ·simp only[h1x,h2x,k1,k2,m1,m2,cond_false,Option.bind_eq_bind,Option.bind_some,Option.pure_def,zY,xy,h3x,k3.bnd,m3.bnd]
   |_=>rfl
 |fieldAddr ty x f=>
  simp only[cOpG,cOp];cases P.underlying ty with
  |none=>rfl
  |some u=>
   cases u with
   |struct fs=>
    simp only;cases fs[f]? with
    |none=>rfl
    |some fd=>
     simp only;cases P.info? fd.type with
     |none=>rfl
     |some i=>
      simp only;cases Nat.beq i.size 0 with
      |true=>rfl
      |false=>rcases zG (t:=t) x with⟨h1,h2⟩|⟨a,b,h1,h2,h3⟩<;>simp[zY,yV,uN, *]
   |_=>rfl
 |field ty x f=>
  simp only[cOpG,cOp];cases P.underlying ty with
  |none=>rfl
  |some u=>
   cases u with
   |struct fs=>
    simp only;cases fs[f]? with
    |none=>rfl
    |some fd=>
     simp only;rcases zG (t:=t) x with⟨h1,h2⟩|⟨a,b,h1,h2,h3⟩<;>cases xN P fd.type<;>simp[zY,yV,w7, *]
   |_=>rfl
 |indexAddr ty x i=>
  simp only[cOpG,cOp];cases P.underlying ty with
  |none=>rfl
  |some u=>
   cases u with
   |slice e=>
    simp only;cases P.info? e with
    |none=>rfl
    |some n=>rcases zG (t:=t) x with⟨h1x,h2x⟩|⟨oax,obx,h1x,h2x,h3x⟩<;>rcases zG (t:=t) i with⟨h1i,h2i⟩|⟨oai,obi,h1i,h2i,h3i⟩<;>simp[zY,yV,zba, *]
   |array len e=>
    simp only;cases P.info? e with
    |none=>rfl
    |some n=>rcases zG (t:=t) x with⟨h1x,h2x⟩|⟨oax,obx,h1x,h2x,h3x⟩<;>rcases zG (t:=t) i with⟨h1i,h2i⟩|⟨oai,obi,h1i,h2i,h3i⟩<;>simp[zY,yV,wZ, *]
   |_=>rfl
 |index ty x i=>
  simp only[cOpG,cOp];cases P.underlying ty with
  |none=>rfl
  |some u=>
   cases u with
   |array len e=>
    simp only;cases P.info? e with
    |none=>rfl
    |some n=>rcases zG (t:=t) x with⟨h1x,h2x⟩|⟨oax,obx,h1x,h2x,h3x⟩<;>rcases zG (t:=t) i with⟨h1i,h2i⟩|⟨oai,obi,h1i,h2i,h3i⟩<;>cases xN P e<;>simp[zY,yV,w6, *]
   |string=>rcases zG (t:=t) x with⟨h1x,h2x⟩|⟨oax,obx,h1x,h2x,h3x⟩<;>rcases zG (t:=t) i with⟨h1i,h2i⟩|⟨oai,obi,h1i,h2i,h3i⟩<;>simp[zY,yV,wY, *]
   |_=>rfl
 |lookup ty m k ok=>
  simp only[cOpG,cOp];cases P.underlying ty with
  |none=>rfl
  |some u=>
   cases u with
   |map key e=>
    simp only;rcases zG (t:=t) m with⟨h1m,h2m⟩|⟨oam,obm,h1m,h2m,h3m⟩<;>rcases zG (t:=t) k with⟨h1k,h2k⟩|⟨oak,obk,h1k,h2k,h3k⟩<;>generalize keyT P key=q1<;>generalize z9 P e=q2<;>cases q1<;>cases q2<;>simp only[h1m,h2m,h1k,h2k]<;>first|rfl|simp[zY,wl, *]
   |_=>rfl
 |mapUpdate ty m k v=>
  simp only[cOpG,cOp];cases P.underlying ty with
  |none=>rfl
  |some u=>
   cases u with
   |map key e=>
    simp only;rcases zG (t:=t) m with⟨h1m,h2m⟩|⟨oam,obm,h1m,h2m,h3m⟩<;>rcases zG (t:=t) k with⟨h1k,h2k⟩|⟨oak,obk,h1k,h2k,h3k⟩<;>rcases zG (t:=t) v with⟨h1v,h2v⟩|⟨oav,obv,h1v,h2v,h3v⟩<;>generalize keyT P key=q1<;>cases q1<;>simp only[h1m,h2m,h1k,h2k]<;>first|rfl|simp[zY,yV,za8, *]
   |_=>rfl
 |insert ty m k v=>
  simp only[cOpG,cOp];cases P.underlying ty with
  |none=>rfl
  |some u=>
   cases u with
   |map key e=>
    simp only;rcases zG (t:=t) m with⟨h1m,h2m⟩|⟨oam,obm,h1m,h2m,h3m⟩<;>rcases zG (t:=t) k with⟨h1k,h2k⟩|⟨oak,obk,h1k,h2k,h3k⟩<;>rcases zG (t:=t) v with⟨h1v,h2v⟩|⟨oav,obv,h1v,h2v,h3v⟩<;>generalize keyT P key=q1<;>cases q1<;>simp only[h1m,h2m,h1k,h2k]<;>first|rfl|simp[zY,yV,za8, *]
   |_=>rfl
 |mapEntry ty m k=>
  simp only[cOpG,cOp];cases P.underlying ty with
  |none=>rfl
  |some u=>
   cases u with
   |map key e=>
    simp only;rcases zG (t:=t) m with⟨h1m,h2m⟩|⟨oam,obm,h1m,h2m,h3m⟩<;>rcases zG (t:=t) k with⟨h1k,h2k⟩|⟨oak,obk,h1k,h2k,h3k⟩<;>generalize keyT P key=q1<;>generalize z9 P e=q2<;>cases q1<;>cases q2<;>simp only[h1m,h2m,h1k,h2k]<;>first|rfl|simp[zY,kF, *]
   |_=>rfl
 |entryStore ty m s v=>
  simp only[cOpG,cOp];rcases zG (t:=t) m with⟨h1m,h2m⟩|⟨oam,obm,h1m,h2m,h3m⟩<;>rcases zG (t:=t) s with⟨h1k,h2k⟩|⟨oak,obk,h1k,h2k,h3k⟩<;>rcases zG (t:=t) v with⟨h1v,h2v⟩|⟨oav,obv,h1v,h2v,h3v⟩<;>simp only[h1m,h2m,h1k,h2k]<;>first|rfl|simp[zY,yV,kG, *]
 |extract x i=>
  rcases zG (t:=t) x with⟨h1,h2⟩|⟨a,b,h1,h2,h3⟩<;>simp[cOpG,cOp,zY,yV,xl, *]
 |call c=>
  obtain⟨callee,args,tys⟩:=c;cases callee with
  |invoke _ _=>rfl
  |value f=>
   simp only[cOpG,cOp];cases hk:Nat.beq (jX P f) 0 with
   |false=>
    simp only[cond_false];unfold cExt;rcases args.toList with _|⟨x,_|⟨y,_|⟨z,l⟩⟩⟩<;>try rfl
    ·simp only;cases Nat.beq (jX P f) 1 with
     |false=>rfl
     |true=>rcases zG (t:=t) x with⟨h1,h2⟩|⟨a,b,h1,h2,h3⟩<;>simp[zY,yV,opMv, *]
    ·simp only;cases Nat.beq (jX P f) 2 with
     |false=>rfl
     |true=>rcases zG (t:=t) x with⟨h1,h2⟩|⟨a,b,h1,h2,h3⟩<;>rcases zG (t:=t) y with⟨h1x,h2x⟩|⟨oax,obx,h1x,h2x,h3x⟩<;>simp[zY,yV,zg9, *]
   |true=>
   simp only[cond_true];rcases zG (t:=t) f with⟨h1x,h2x⟩|⟨oax,obx,h1x,h2x,h3x⟩
   ·simp only[h1x,h2x];rfl
   ·rcases zbC (t:=t) args.toList with⟨h1,h2⟩|⟨xs,ys,h1,h2,h3⟩
    ·simp only[h1x,h2x,h1,h2];rfl
    ·simp only[h1x,h2x,h1,h2,Option.bind_eq_bind,Option.bind_some,Option.pure_def,zY,zck,h3x,zkF _ _ h3]
  |builtin b=>
   cases b with
   |len=>
    simp only[cOpG,cOp];cases tys[0]? with
    |none=>rfl
    |some ty=>
     cases args[0]? with
     |none=>rfl
     |some x=>
      simp only;cases P.underlying ty with
      |none=>rfl
      |some u=>cases u<;>first|rfl|(rcases zG (t:=t) x with⟨h1,h2⟩|⟨a,b,h1,h2,h3⟩<;>simp[zY,yV,uL,uM,jE, *])
   |append=>
    simp only[cOpG,cOp];rcases tys.toList with _|⟨t1,_|⟨t2,_|⟨t3,l⟩⟩⟩<;>try rfl
    rcases args.toList with _|⟨s,_|⟨x,_|⟨y,l⟩⟩⟩<;>try rfl
    simp only;cases P.underlying t1 with
    |none=>rfl
    |some u=>
     cases u<;>try rfl
     rename_i e;simp only;cases P.info? e with
     |none=>rfl
     |some i=>
      cases z9 P e with
      |none=>rfl
      |some z=>
       simp only;generalize (Nat.beq z.cells.length i.size && !Nat.beq i.size 0)=q;cases q with
       |false=>rfl
       |true=>
        cases P.underlying t2 with
        |none=>rfl
        |some u2=>
         generalize (yE P e&&Nat.beq i.size 1)=q6;generalize Nat.beq i.size 1=q5;rcases zG (t:=t) s with⟨h1,h2⟩|⟨a,b,h1,h2,h3⟩<;>rcases zG (t:=t) x with⟨h1x,h2x⟩|⟨oax,obx,h1x,h2x,h3x⟩<;>cases u2<;>cases q5<;>cases q6<;>first|rfl|simp[zY,yV,xz,uP,uQ, *]
   |unsafeSliceData=>
    simp only[cOpG,cOp];rcases args.toList with _|⟨x,_|⟨y,l⟩⟩<;>try rfl
    rcases zG (t:=t) x with⟨h1,h2⟩|⟨a,b,h1,h2,h3⟩<;>simp[zY,yV,wU, *]
   |unsafeString=>
    simp only[cOpG,cOp];rcases tys.toList with _|⟨t1,_|⟨t2,_|⟨t3,l⟩⟩⟩<;>try rfl
    rcases args.toList with _|⟨x,_|⟨y,_|⟨z,l⟩⟩⟩<;>try rfl
    simp only;cases P.underlying t1 with
    |none=>rfl
    |some u=>
     cases u<;>try rfl
     rename_i e;simp only;generalize (yE P e&&Nat.beq (P.cellsOf e) 1)=q;cases q with
     |false=>rfl
     |true=>rcases zG (t:=t) x with⟨h1,h2⟩|⟨a,b,h1,h2,h3⟩<;>rcases zG (t:=t) y with⟨h1x,h2x⟩|⟨oax,obx,h1x,h2x,h3x⟩<;>simp[zY,yV,zew, *]
   |cap=>
    simp only[cOpG,cOp];cases tys[0]? with
    |none=>rfl
    |some ty=>
     cases args[0]? with
     |none=>rfl
     |some x=>
      simp only;cases P.underlying ty with
      |none=>rfl
      |some u=>cases u<;>first|rfl|(rcases zG (t:=t) x with⟨h1,h2⟩|⟨a,b,h1,h2,h3⟩<;>simp[zY,yV,zj7, *])
   |copy=>
    simp only[cOpG,cOp];rcases tys.toList with _|⟨t1,_|⟨t2,_|⟨t3,l⟩⟩⟩<;>try rfl
    rcases args.toList with _|⟨x,_|⟨y,_|⟨z,l⟩⟩⟩<;>try rfl
    simp only;cases P.underlying t1 with
    |none=>rfl
    |some u=>
     cases P.underlying t2 with
     |none=>cases u<;>rfl
     |some u2=>
      cases u<;>try rfl
      all_goals (cases u2<;>try rfl)
      rename_i e e2;simp only;cases P.info? e with
      |none=>rfl
      |some i=>
       simp only;generalize Nat.beq i.size 0=q;cases q with
       |true=>rfl
       |false=>rcases zG (t:=t) x with⟨h1,h2⟩|⟨a,b,h1,h2,h3⟩<;>rcases zG (t:=t) y with⟨h1x,h2x⟩|⟨oax,obx,h1x,h2x,h3x⟩<;>simp[zY,yV,zex, *]
   |clear=>
    simp only[cOpG,cOp];cases tys[0]? with
    |none=>rfl
    |some ty=>
     cases args[0]? with
     |none=>rfl
     |some x=>
      simp only;cases P.underlying ty with
      |none=>rfl
      |some u=>
       cases u<;>try rfl
       rename_i e;simp only;cases P.info? e with
       |none=>rfl
       |some i=>
        cases z9 P e with
        |none=>rfl
        |some z=>
         simp only;generalize (Nat.beq z.cells.length i.size && !Nat.beq i.size 0)=q;cases q with
         |false=>rfl
         |true=>rcases zG (t:=t) x with⟨h1,h2⟩|⟨a,b,h1,h2,h3⟩<;>simp[zY,yV,qr, *]
   |max=>
    simp only[cOpG,cOp];rcases zbC (t:=t) args.toList with⟨h1,h2⟩|⟨xs,ys,h1,h2,h3⟩
    ·simp only[h1,h2];rfl
    ·simp only[h1,h2];cases xs<;>cases ys<;>first|rfl|exact h3.elim|simp only[zY,y0,h3.1,zdo _ _ _ _ _ h3.2]
   |min=>
    simp only[cOpG,cOp];rcases zbC (t:=t) args.toList with⟨h1,h2⟩|⟨xs,ys,h1,h2,h3⟩
    ·simp only[h1,h2];rfl
    ·simp only[h1,h2];cases xs<;>cases ys<;>first|rfl|exact h3.elim|simp only[zY,y0,h3.1,zdo _ _ _ _ _ h3.2]
   |_=>rfl
 |_=>
  rfl
end
end Go.CE
end
