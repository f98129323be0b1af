/-
  Lemmas. No condition.
-/
import Derived.Test.YtajlcdcddofboaaGreatDoorVa
import Derived.TacticsIn
import Derived.RangeFuncRecord
import Derived.RangeFuncNested
import Derived.LoopNIn
import Derived.OrdersIn
import Derived.RangeFuncLeaves
import Derived.RangeFuncIn
import Derived.Laws.Sem
section
namespace Go.CE
open Go.RowKit
section
variable {P:Program} {w0:World} {S:Nat→Prop} {φ:Phi} {h h2:Za} {w w2:World} {nt:Nat} {t:Tr Zb} {a:Act} {v:Zb} {call:zg}
theorem zc{x:Res}(hx:x=none)(e:x=some (v,h2)):False:=by rw[hx]at e;cases e
theorem ziz(H:Zd w0 S φ h w)(T:Zi φ nt h.n.toNat t a.tmps){isMax:Bool}{x:Operand}{xs:List Operand}{f:Opd}{fs:List Opd}(hx:zwM x=some f)(hxs:uh xs=some fs){s:Array Value→Sem Value}
  (hs:∀args:Array Value,args.toList=(x::xs).map a.eval→s args=(xs.map a.eval).foldlM (if isMax then Builtin.max2 else Builtin.min2) (a.eval x)) {args:Array Value} (ha:args.toList=(x::xs).map a.eval)
  (e:xe isMax f fs call t h=some (v,h2)):Done w0 S φ h v h2 ((do pure (Next.value (←s args)):Sem Next).run P w):=by
 unfold xe at e;split at e
 ·rename_i k n hn;split at e
  ·rename_i m hm;cases e;refine Done.same H ?_ (zw ?_)
   ·exact trivial
   ·rw[hs args ha,(zn T hx).1,hn,zT,zT];exact zdw isMax k T hxs n m hm
  ·cases e
 ·cases e
def zl8:Op→Bool
 | .call c=>match c.callee with | .builtin _=>true|_=>false
 |_=>true
set_option maxHeartbeats 2000000 in
theorem zo4(H:Zd w0 S φ h w)(T:Zi φ nt h.n.toNat t a.tmps){o:Oper}(hp:zl8 o.op=true)(e:cOp P o.op call t h=some (v,h2)):Done w0 S φ h v h2 ((execOp a.eval o).run P w):=by
 cases ho:o.op<;>rw[ho]at e hp<;>try (exact(zc rfl e).elim)
 case move x=>
  cases hx:zwM x with
  |none=>simp only[cOp,hx]at e;exact(zc rfl e).elim
  |some f=>simp only[cOp,hx]at e;unfold execOp;simp only[ho];exact zAj (call:=call) H (zn T hx) e
 case assign x=>
  cases hx:zwM x with
  |none=>simp only[cOp,hx]at e;exact(zc rfl e).elim
  |some f=>simp only[cOp,hx]at e;unfold execOp;simp only[ho];exact zAj (call:=call) H (zn T hx) e
 case pick c x y=>
  cases hc:zwM c with
  |none=>simp only[cOp,hc]at e;exact(zc rfl e).elim
  |some fc=>
   cases hx:zwM x with
   |none=>simp only[cOp,hc,hx]at e;exact(zc rfl e).elim
   |some fx=>
    cases hy:zwM y with
    |none=>simp only[cOp,hc,hx,hy]at e;exact(zc rfl e).elim
    |some fy=>simp only[cOp,hc,hx,hy]at e;unfold execOp;simp only[ho];exact ztu (call:=call) H (zn T hc).1 (zn T hx) (zn T hy) e
 case alloc ty=>
  cases hz:yl P ty with
  |none=>simp only[cOp,hz]at e;cases hb:qN P ty<;>rw[hb]at e<;>exact(zc rfl e).elim
  |some z=>
   simp only[cOp,hz]at e;unfold execOp;simp only[ho];cases hb:qN P ty with
   |false=>rw[hb]at e;exact zrt (call:=call) (t:=t) H hz e
   |true=>rw[hb]at e;exact zoT (call:=call) (t:=t) H hz e
 case box ty x=>
  cases hx:zwM x with
  |none=>simp only[cOp,hx]at e;exact(zc rfl e).elim
  |some f=>simp only[cOp,hx]at e;unfold execOp;simp only[ho];exact zvD (call:=call) (t:=t) H (zn T hx) e
 case build ty parts=>
  cases hu:P.underlying ty with
  |none=>simp only[cOp,hu]at e;exact(zc rfl e).elim
  |some d=>
   cases d<;>try (cases hz:yl P ty<;>simp only[cOp,hu,hz]at e<;>exact(zc rfl e).elim)
   case array len el=>
    cases hz:yl P ty with
    |none=>simp only[cOp,hu,hz]at e;exact(zc rfl e).elim
    |some z=>
     cases hi:P.info? el with
     |none=>simp only[cOp,hu,hz,hi]at e;exact(zc rfl e).elim
     |some i=>
      cases hr:xn i.size parts.toList with
      |none=>simp only[cOp,hu,hz,hi,hr]at e;exact(zc rfl e).elim
      |some r=>simp only[cOp,hu,hz,hi,hr]at e;unfold execOp;simp only[ho];exact zoS (call:=call) (t:=t) H T hu hz hi hr e
   case struct fs=>
    cases hz:yl P ty with
    |none=>simp only[cOp,hu,hz]at e;exact(zc rfl e).elim
    |some z=>
     cases hall:qr P fs.toList with
     |false=>simp only[cOp,hu,hz,hall]at e;exact(zc rfl e).elim
     |true=>
      cases hr:xP P fs parts.toList with
      |none=>simp only[cOp,hu,hz,hall,hr]at e;exact(zc rfl e).elim
      |some r=>simp only[cOp,hu,hz,hall,hr]at e;unfold execOp;simp only[ho];exact zoR (call:=call) (t:=t) H T hu hz hall hr e
 case buildSlice ty len parts=>
  cases hu:P.underlying ty with
  |none=>simp only[cOp,hu]at e;exact(zc rfl e).elim
  |some d=>
   cases d<;>try (simp only[cOp,hu]at e;exact(zc rfl e).elim)
   case slice el=>
    cases hi:P.info? el with
    |none=>simp only[cOp,hu,hi]at e;exact(zc rfl e).elim
    |some i=>
     simp only[cOp,hu,hi]at e;cases hle:Nat.ble (len*i.size) 16777216 with
     |false=>rw[hle]at e;exact(zc rfl e).elim
     |true=>
      rw[hle]at e;simp only[Yza]at e;cases hr:xn i.size parts.toList with
      |none=>
       rw[hr]at e;exfalso
       revert e
       cases hb:Nat.beq (len*i.size) 0 with
       |true=>simp only[Yza,Bool.true_or];intro e;exact zc rfl e
       |false=>
        cases hz:yl P el with
        |none=>simp only[Yzc,Option.map_none];intro e;exact zc rfl e
        |some z=>
         simp only[Yzc,Yzv,Yym];cases hzl:Nat.beq z.cells.length i.size<;>(intro e;exact zc rfl e)
      |some r=>
       rw[hr]at e;unfold execOp;simp only[ho];cases hb:Nat.beq (len*i.size) 0 with
       |true=>
        rw[hb]at e;simp only[Yza,Bool.true_or]at e;exact ziA (call:=call) (t:=t) H T hu hi (yb hle) (.inl ⟨beq_true hb,rfl⟩) hr e
       |false=>
        rw[hb]at e;cases hz:yl P el with
        |none=>simp only[hz,Yzc,Option.map_none]at e;exact(zc rfl e).elim
        |some z=>
         simp only[hz,Yzc,Yzv,Yym]at e;cases hzl:Nat.beq z.cells.length i.size with
         |false=>rw[hzl]at e;exact(zc rfl e).elim
         |true=>
          rw[hzl]at e;exact ziA (call:=call) (t:=t) H T hu hi (yb hle) (.inr ⟨beq_false hb,z,hz,rfl,beq_true hzl⟩) hr e
 case load ty x=>
  cases hs:xY P ty with
  |none=>simp only[cOp,hs]at e;exact(zc rfl e).elim
  |some n=>
   cases hx:zwM x with
   |none=>simp only[cOp,hs,hx]at e;exact(zc rfl e).elim
   |some f=>simp only[cOp,hs,hx]at e;unfold execOp;simp only[ho];exact ztx (call:=call) (t:=t) H hs (zn T hx).1 e
 case store ty x y=>
  cases hi:P.info? ty with
  |none=>simp only[cOp,hi]at e;exact(zc rfl e).elim
  |some i=>
   cases hx:zwM x with
   |none=>simp only[cOp,hi,hx]at e;exact(zc rfl e).elim
   |some f=>
    cases hy:zwM y with
    |none=>simp only[cOp,hi,hx,hy]at e;exact(zc rfl e).elim
    |some g=>simp only[cOp,hi,hx,hy]at e;unfold execOp;simp only[ho];exact zrk (call:=call) (t:=t) H hi (zn T hx).1 (zn T hy) e
 case nilCheck x=>
  cases hx:zwM x with
  |none=>simp only[cOp,hx]at e;exact(zc rfl e).elim
  |some f=>simp only[cOp,hx]at e;exact zrm (call:=call) (t:=t) H ho (zn T hx) e
 case unOp op ty x=>
  cases op<;>try (exact(zc rfl e).elim)
  case not=>
   cases hx:zwM x with
   |none=>simp only[cOp,hx]at e;exact(zc rfl e).elim
   |some f=>simp only[cOp,hx]at e;unfold execOp;simp only[ho];exact zvy (call:=call) (t:=t) H (zn T hx).1 e
  case neg=>
   cases hx:zwM x with
   |none=>simp only[cOp,hx]at e;exact(zc rfl e).elim
   |some f=>simp only[cOp,hx]at e;unfold execOp;simp only[ho];exact zvz (call:=call) (t:=t) H (zn T hx).1 e
 case convert s d x=>
  cases hus:P.underlying s with
  |none=>simp only[cOp,hus]at e;exact(zc rfl e).elim
  |some ds=>
   cases hud:P.underlying d with
   |none=>simp only[cOp,hus,hud]at e;cases ds<;>exact(zc rfl e).elim
   |some dd=>
    cases ds<;>try (simp only[cOp,hus,hud]at e;exact(zc rfl e).elim)
    case string=>
     cases dd<;>try (simp only[cOp,hus,hud]at e;exact(zc rfl e).elim)
     case slice el=>
      cases hb:yM P el with
      |false=>simp only[cOp,hus,hud,hb]at e;exact(zc rfl e).elim
      |true=>
       cases hx:zwM x with
       |none=>simp only[cOp,hus,hud,hb,hx]at e;exact(zc rfl e).elim
       |some f=>simp only[cOp,hus,hud,hb,hx]at e;unfold execOp;simp only[ho];exact zvF (call:=call) (t:=t) (x:=f) H hus hud (zck hb) (zn T hx).1 e
    case slice el=>
     cases dd<;>try (simp only[cOp,hus,hud]at e;exact(zc rfl e).elim)
     case string=>
      cases hb:yM P el with
      |false=>simp only[cOp,hus,hud,hb]at e;exact(zc rfl e).elim
      |true=>
       cases hx:zwM x with
       |none=>simp only[cOp,hus,hud,hb,hx]at e;exact(zc rfl e).elim
       |some f=>simp only[cOp,hus,hud,hb,hx]at e;unfold execOp;simp only[ho];exact zvH (call:=call) (t:=t) (x:=f) H hus (zck hb) hud (zn T hx).1 e
    case pointer te=>
     cases dd<;>try (simp only[cOp,hus,hud]at e;exact(zc rfl e).elim)
     case unsafePointer=>
      cases hb:x5 P te with
      |false=>simp only[cOp,hus,hud,hb]at e;exact(zc rfl e).elim
      |true=>
       cases hx:zwM x with
       |none=>simp only[cOp,hus,hud,hb,hx]at e;exact(zc rfl e).elim
       |some f=>simp only[cOp,hus,hud,hb,hx]at e;unfold execOp;simp only[ho];exact zvG (call:=call) (t:=t) (x:=f) H hus hud hb (zn T hx) e
    case unsafePointer=>
     cases dd<;>try (simp only[cOp,hus,hud]at e;exact(zc rfl e).elim)
     case pointer u=>
      cases hb:zkQ P u with
      |false=>simp only[cOp,hus,hud,hb]at e;exact(zc rfl e).elim
      |true=>
       cases hx:zwM x with
       |none=>simp only[cOp,hus,hud,hb,hx]at e;exact(zc rfl e).elim
       |some f=>simp only[cOp,hus,hud,hb,hx]at e;unfold execOp;simp only[ho];exact zvE (call:=call) (t:=t) (x:=f) H hus hud hb (zn T hx) e
    case int k0=>
     cases dd<;>try (simp only[cOp,hus,hud]at e;exact(zc rfl e).elim)
     case int k=>
      cases hx:zwM x with
      |none=>simp only[cOp,hus,hud,hx]at e;exact(zc rfl e).elim
      |some f=>simp only[cOp,hus,hud,hx]at e;unfold execOp;simp only[ho];exact ztD (call:=call) (t:=t) H hus hud (zn T hx).1 e
 case makeFunc fn first captured=>
  cases fn<;>try (exact(zc rfl e).elim)
  case func f=>
   cases hf:first.isEmpty with
   |false=>simp only[cOp,hf]at e;exact(zc rfl e).elim
   |true=>
    cases hc:uh captured.toList with
    |none=>simp only[cOp,hf,hc]at e;exact(zc rfl e).elim
    |some l=>
     simp only[cOp,hf,hc]at e;unfold execOp;simp only[ho];have h1:first=#[]:=by simpa using hf
     have h2':captured.map a.eval=(captured.toList.map a.eval).toArray:=by apply Array.ext';simp
     have h3:first.map a.eval=#[]:=by rw[h1];simp
     rw[h2',h3];exact ztw (call:=call) (t:=t) H (zb0 T hc) e
 case makeMap ty r=>
  cases r with
  |none=>unfold execOp;simp only[ho];exact zrn (call:=call) (t:=t) H e
  |some x=>exact(zc rfl e).elim
 case makeSlice ty l c=>
  cases hu:P.underlying ty with
  |none=>simp only[cOp,hu]at e;exact(zc rfl e).elim
  |some d=>
   cases d<;>try (simp only[cOp,hu]at e;exact(zc rfl e).elim)
   case slice el=>
    cases hi:P.info? el with
    |none=>simp only[cOp,hu,hi]at e;exact(zc rfl e).elim
    |some i=>
     cases hz:yl P el with
     |none=>simp only[cOp,hu,hi,hz]at e;exact(zc rfl e).elim
     |some z=>
      simp only[cOp,hu,hi,hz]at e;cases hb:(Nat.beq z.cells.length i.size && !Nat.beq i.size 0) with
      |false=>rw[hb]at e;exact(zc rfl e).elim
      |true=>
       rw[hb]at e;simp only[LzC,YzN]at hb;cases hl:zwM l with
       |none=>simp only[hl]at e;exact(zc rfl e).elim
       |some fl=>
        cases hc:zwM c with
        |none=>simp only[hl,hc]at e;exact(zc rfl e).elim
        |some fc=>
         simp only[hl,hc]at e;unfold execOp;simp only[ho];exact zlM (call:=call) (t:=t) H hu hi hz (beq_true hb.1) (beq_false hb.2) (zn T hl).1 (zn T hc).1 e
 case slice ty x lo hi mx=>
  cases hu:P.underlying ty with
  |none=>simp only[cOp,hu]at e;exact(zc rfl e).elim
  |some d=>
   cases d<;>try (simp only[cOp,hu]at e;exact(zc rfl e).elim)
   case slice el=>
    cases hi':P.info? el with
    |none=>simp only[cOp,hu,hi']at e;exact(zc rfl e).elim
    |some i=>
     simp only[cOp,hu,hi']at e;cases hb:(mx.isSome && !hi.isSome) with
     |true=>rw[hb]at e;exact(zc rfl e).elim
     |false=>
      rw[hb]at e;cases hx:zwM x with
      |none=>simp only[hx]at e;exact(zc rfl e).elim
      |some fx=>
       cases hlo:zw6 lo with
       |none=>simp only[hx,hlo]at e;exact(zc rfl e).elim
       |some fl=>
        cases hhi:zw6 hi with
        |none=>simp only[hx,hlo,hhi]at e;exact(zc rfl e).elim
        |some fh=>
         cases hmx:zw6 mx with
         |none=>simp only[hx,hlo,hhi,hmx]at e;exact(zc rfl e).elim
         |some fm=>
          simp only[hx,hlo,hhi,hmx]at e;unfold execOp;simp only[ho];exact zrl (call:=call) (t:=t) H T hu hi' hx hlo hhi hmx (fun hm=>by
           cases hh:hi.isSome with
           |true=>rfl
           |false=>rw[hm,hh]at hb;cases hb) e
   case array len el=>
    simp only[cOp,hu]at e;cases hi':P.info? el with
    |none=>rw[hi']at e;exact(zc rfl e).elim
    |some i=>
     rw[hi']at e;simp only at e;cases hb:(mx.isSome && !hi.isSome) with
     |true=>rw[hb]at e;exact(zc rfl e).elim
     |false=>
      rw[hb]at e;cases hx:zwM x with
      |none=>simp only[hx]at e;exact(zc rfl e).elim
      |some fx=>
       cases hlo:zw6 lo with
       |none=>simp only[hx,hlo]at e;exact(zc rfl e).elim
       |some fl=>
        cases hhi:zw6 hi with
        |none=>simp only[hx,hlo,hhi]at e;exact(zc rfl e).elim
        |some fh=>
         cases hmx:zw6 mx with
         |none=>simp only[hx,hlo,hhi,hmx]at e;exact(zc rfl e).elim
         |some fm=>
          simp only[hx,hlo,hhi,hmx]at e;unfold execOp;simp only[ho];exact zoN (call:=call) (t:=t) H T hu hi' hx hlo hhi hmx (fun hm=>by
           cases hh:hi.isSome with
           |true=>rfl
           |false=>rw[hm,hh]at hb;cases hb) e
   case string=>
    simp only[cOp,hu]at e;cases mx with
    |some m=>exact(zc rfl e).elim
    |none=>
     simp only[Option.isSome_none,Yzc]at e;cases hx:zwM x with
     |none=>simp only[hx]at e;exact(zc rfl e).elim
     |some fx=>
      cases hlo:zw6 lo with
      |none=>simp only[hx,hlo]at e;exact(zc rfl e).elim
      |some fl=>
       cases hhi:zw6 hi with
       |none=>simp only[hx,hlo,hhi]at e;exact(zc rfl e).elim
       |some fh=>
        simp only[hx,hlo,hhi]at e;unfold execOp;simp only[ho];exact zoM (call:=call) (t:=t) H T hu hx hlo hhi e
 case fieldAddr ty x f=>
  cases hu:P.underlying ty with
  |none=>simp only[cOp,hu]at e;exact(zc rfl e).elim
  |some d=>
   cases d<;>try (simp only[cOp,hu]at e;exact(zc rfl e).elim)
   case struct fs=>
    cases hf:fs[f]? with
    |none=>simp only[cOp,hu,hf]at e;exact(zc rfl e).elim
    |some fd=>
     cases hi:P.info? fd.type with
     |none=>simp only[cOp,hu,hf,hi]at e;exact(zc rfl e).elim
     |some i=>
      simp only[cOp,hu,hf,hi]at e;cases hb:Nat.beq i.size 0 with
      |true=>rw[hb]at e;exact(zc rfl e).elim
      |false=>
       rw[hb]at e;cases hx:zwM x with
       |none=>simp only[hx]at e;exact(zc rfl e).elim
       |some g=>simp only[hx]at e;unfold execOp;simp only[ho];exact ztB (call:=call) (t:=t) H hu hf hi hb (zn T hx) e
 case field ty x f=>
  cases hu:P.underlying ty with
  |none=>simp only[cOp,hu]at e;exact(zc rfl e).elim
  |some d=>
   cases d<;>try (simp only[cOp,hu]at e;exact(zc rfl e).elim)
   case struct fs=>
    cases hf:fs[f]? with
    |none=>simp only[cOp,hu,hf]at e;exact(zc rfl e).elim
    |some fd=>
     cases hx:zwM x with
     |none=>simp only[cOp,hu,hf,hx]at e;exact(zc rfl e).elim
     |some g=>
      cases hs:xY P fd.type with
      |none=>simp only[cOp,hu,hf,hx,hs]at e;exact(zc rfl e).elim
      |some n=>simp only[cOp,hu,hf,hx,hs]at e;unfold execOp;simp only[ho];exact zrr (call:=call) (t:=t) H hu hf hs (zn T hx) e
 case indexAddr ty x i=>
  cases hu:P.underlying ty with
  |none=>simp only[cOp,hu]at e;exact(zc rfl e).elim
  |some d=>
   cases d<;>try (simp only[cOp,hu]at e;exact(zc rfl e).elim)
   case slice el=>
    cases hi:P.info? el with
    |none=>simp only[cOp,hu,hi]at e;exact(zc rfl e).elim
    |some info=>
     cases hx:zwM x with
     |none=>simp only[cOp,hu,hi,hx]at e;exact(zc rfl e).elim
     |some g=>
      cases hj:zwM i with
      |none=>simp only[cOp,hu,hi,hx,hj]at e;exact(zc rfl e).elim
      |some k=>simp only[cOp,hu,hi,hx,hj]at e;unfold execOp;simp only[ho];exact zvA (call:=call) (t:=t) H hu hi (zn T hx) (zn T hj).1 e
   case array len el=>
    cases hi:P.info? el with
    |none=>simp only[cOp,hu,hi]at e;exact(zc rfl e).elim
    |some info=>
     cases hx:zwM x with
     |none=>simp only[cOp,hu,hi,hx]at e;exact(zc rfl e).elim
     |some g=>
      cases hj:zwM i with
      |none=>simp only[cOp,hu,hi,hx,hj]at e;exact(zc rfl e).elim
      |some k=>simp only[cOp,hu,hi,hx,hj]at e;unfold execOp;simp only[ho];exact zrp (call:=call) (t:=t) H hu hi (zn T hx) (zn T hj).1 e
 case index ty x i=>
  cases hu:P.underlying ty with
  |none=>simp only[cOp,hu]at e;exact(zc rfl e).elim
  |some d=>
   cases d<;>try (simp only[cOp,hu]at e;exact(zc rfl e).elim)
   case array len el=>
    cases hi:P.info? el with
    |none=>simp only[cOp,hu,hi]at e;exact(zc rfl e).elim
    |some info=>
     cases hs:xY P el with
     |none=>simp only[cOp,hu,hi,hs]at e;exact(zc rfl e).elim
     |some n=>
      cases hx:zwM x with
      |none=>simp only[cOp,hu,hi,hs,hx]at e;exact(zc rfl e).elim
      |some g=>
       cases hj:zwM i with
       |none=>simp only[cOp,hu,hi,hs,hx,hj]at e;exact(zc rfl e).elim
       |some k=>simp only[cOp,hu,hi,hs,hx,hj]at e;unfold execOp;simp only[ho];exact zrq (call:=call) (t:=t) H hu hi hs (zn T hx) (zn T hj).1 e
   case string=>
    cases hx:zwM x with
    |none=>simp only[cOp,hu,hx]at e;exact(zc rfl e).elim
    |some g=>
     cases hj:zwM i with
     |none=>simp only[cOp,hu,hx,hj]at e;exact(zc rfl e).elim
     |some k=>simp only[cOp,hu,hx,hj]at e;unfold execOp;simp only[ho];exact zro (call:=call) (t:=t) H hu (zn T hx).1 (zn T hj).1 e
 case lookup ty m k ok=>
  cases hu:P.underlying ty with
  |none=>simp only[cOp,hu]at e;exact(zc rfl e).elim
  |some d=>
   cases d<;>try (simp only[cOp,hu]at e;exact(zc rfl e).elim)
   case map kt el=>
    cases hk:zw1 P kt with
    |none=>simp only[cOp,hu,hk]at e;exact(zc rfl e).elim
    |some ks=>
     cases hz:yl P el with
     |none=>simp only[cOp,hu,hk,hz]at e;exact(zc rfl e).elim
     |some z=>
      cases hm:zwM m with
      |none=>simp only[cOp,hu,hk,hz,hm]at e;exact(zc rfl e).elim
      |some fm=>
       cases hkk:zwM k with
       |none=>simp only[cOp,hu,hk,hz,hm,hkk]at e;exact(zc rfl e).elim
       |some fk=>simp only[cOp,hu,hk,hz,hm,hkk]at e;unfold execOp;simp only[ho];exact zoP (call:=call) (t:=t) H hu hk hz (zn T hm).1 (zn T hkk).1 e
 case mapUpdate ty m k x=>
  cases hu:P.underlying ty with
  |none=>simp only[cOp,hu]at e;exact(zc rfl e).elim
  |some d=>
   cases d<;>try (simp only[cOp,hu]at e;exact(zc rfl e).elim)
   case map kt el=>
    cases hk:zw1 P kt with
    |none=>simp only[cOp,hu,hk]at e;exact(zc rfl e).elim
    |some ks=>
     cases hm:zwM m with
     |none=>simp only[cOp,hu,hk,hm]at e;exact(zc rfl e).elim
     |some fm=>
      cases hkk:zwM k with
      |none=>simp only[cOp,hu,hk,hm,hkk]at e;exact(zc rfl e).elim
      |some fk=>
       cases hx:zwM x with
       |none=>simp only[cOp,hu,hk,hm,hkk,hx]at e;exact(zc rfl e).elim
       |some fx=>simp only[cOp,hu,hk,hm,hkk,hx]at e;unfold execOp;simp only[ho];exact zqn (call:=call) (t:=t) H hu hk (zn T hm).1 (zn T hkk) (zn T hx) e
 case insert ty m k x=>
  cases hu:P.underlying ty with
  |none=>simp only[cOp,hu]at e;exact(zc rfl e).elim
  |some d=>
   cases d<;>try (simp only[cOp,hu]at e;exact(zc rfl e).elim)
   case map kt el=>
    cases hk:zw1 P kt with
    |none=>simp only[cOp,hu,hk]at e;exact(zc rfl e).elim
    |some ks=>
     cases hm:zwM m with
     |none=>simp only[cOp,hu,hk,hm]at e;exact(zc rfl e).elim
     |some fm=>
      cases hkk:zwM k with
      |none=>simp only[cOp,hu,hk,hm,hkk]at e;exact(zc rfl e).elim
      |some fk=>
       cases hx:zwM x with
       |none=>simp only[cOp,hu,hk,hm,hkk,hx]at e;exact(zc rfl e).elim
       |some fx=>simp only[cOp,hu,hk,hm,hkk,hx]at e;unfold execOp;simp only[ho];exact zqn (call:=call) (t:=t) H hu hk (zn T hm).1 (zn T hkk) (zn T hx) e
 case mapEntry ty m k=>
  cases hu:P.underlying ty with
  |none=>simp only[cOp,hu]at e;exact(zc rfl e).elim
  |some d=>
   cases d<;>try (simp only[cOp,hu]at e;exact(zc rfl e).elim)
   case map kt el=>
    cases hk:zw1 P kt with
    |none=>simp only[cOp,hu,hk]at e;exact(zc rfl e).elim
    |some ks=>
     cases hz:yl P el with
     |none=>simp only[cOp,hu,hk,hz]at e;exact(zc rfl e).elim
     |some z=>
      cases hm:zwM m with
      |none=>simp only[cOp,hu,hk,hz,hm]at e;exact(zc rfl e).elim
      |some fm=>
       cases hkk:zwM k with
       |none=>simp only[cOp,hu,hk,hz,hm,hkk]at e;exact(zc rfl e).elim
       |some fk=>simp only[cOp,hu,hk,hz,hm,hkk]at e;unfold execOp;simp only[ho];exact zoO (call:=call) (t:=t) H hu hk hz (zn T hm).1 (zn T hkk) e
 case entryStore ty m s x=>
  cases hm:zwM m with
  |none=>simp only[cOp,hm]at e;exact(zc rfl e).elim
  |some fm=>
   cases hs:zwM s with
   |none=>simp only[cOp,hm,hs]at e;exact(zc rfl e).elim
   |some fs=>
    cases hx:zwM x with
    |none=>simp only[cOp,hm,hs,hx]at e;exact(zc rfl e).elim
    |some fx=>simp only[cOp,hm,hs,hx]at e;unfold execOp;simp only[ho];exact zoQ (call:=call) (t:=t) H (zn T hm).1 (zn T hs).1 (zn T hx) e
 case extract x i=>
  cases hx:zwM x with
  |none=>simp only[cOp,hx]at e;exact(zc rfl e).elim
  |some f=>simp only[cOp,hx]at e;unfold execOp;simp only[ho];exact zlN (call:=call) (t:=t) H (zn T hx) e
 case binOp op ty x y yt=>
  cases hu:P.underlying ty with
  |none=>simp only[cOp,hu]at e;exact(zc rfl e).elim
  |some d=>
   cases hx:zwM x with
   |none=>
    exfalso
    revert e
    cases d<;>cases op<;>simp only[cOp,hu,hx]<;>first|(intro e;exact zc rfl e)|(cases x5 P _<;>(intro e;exact zc rfl e))|(cases P.eqGuardType P.depth ty<;>cases zw1 P ty<;>(intro e;exact zc rfl e))
   |some fx=>
    cases hy:zwM y with
    |none=>
     exfalso
     revert e
     cases d<;>cases op<;>simp only[cOp,hu,hx,hy]<;>first|(intro e;exact zc rfl e)|(cases x5 P _<;>(intro e;exact zc rfl e))|(cases P.eqGuardType P.depth ty<;>cases zw1 P ty<;>(intro e;exact zc rfl e))
    |some fy=>
     have ox:=zn T hx;have oy:=zn T hy;unfold execOp;simp only[ho];have eq_case:(∀k,d≠.int k)→d≠.string→∀neg:Bool,op=(bif neg then .neq else .eql)→
       yi (bif P.eqGuardType P.depth ty then none else do pure (zxK (←zw1 P ty) neg fx fy)) call t h=some (v,h2)→
       Done w0 S φ h v h2 ((do pure (Next.value (←(do eqGuard op ty x y (a.eval x) (a.eval y);binOp op ty (a.eval x) (a.eval y)))):Sem Next).run P w):=by
      intro hni hns neg hop e;cases hg:P.eqGuardType P.depth ty with
      |true=>rw[hg]at e;exact(zc rfl e).elim
      |false=>
       rw[hg]at e;cases hk:zw1 P ty with
       |none=>rw[hk]at e;exact(zc rfl e).elim
       |some ks=>
        rw[hk]at e;exact zA7 (call:=call) H hop hg hk (fun j hj=>hni j (by rw[hu]at hj;exact Option.some.inj hj)) (fun hj=>hns (by rw[hu]at hj;exact Option.some.inj hj)) ox.1 oy.1 e
     cases d
     case int k=>
      by_cases h1:op=.shl
      ·subst h1;simp only[cOp,hu,hx,hy]at e;exact zlK (call:=call) H (.inl ⟨rfl,rfl⟩) ox.1 oy.1 e
      ·by_cases h2':op=.shr
       ·subst h2';simp only[cOp,hu,hx,hy]at e;exact zlK (call:=call) H (.inr ⟨rfl,rfl⟩) ox.1 oy.1 e
       ·have e':zbi (ur op) fx fy call t h=some (v,h2):=by
         cases op<;>simp only[cOp,hu,hx,hy]at e<;>first|exact e|exact absurd rfl h1|exact absurd rfl h2'
        exact zvB (call:=call) H ox.1 oy.1 e'
     case string=>simp only[cOp,hu,hx,hy]at e;exact zvx (call:=call) H ox.1 oy.1 e
     case slice el=>
      cases op<;>simp only[cOp,hu,hx,hy]at e<;>try (exact(zc rfl e).elim)
      case eql=>exact zql (call:=call) H (neg:=false) rfl hu ox.1 oy.1 e
      case neq=>exact zql (call:=call) H (neg:=true) rfl hu ox.1 oy.1 e
     case pointer te=>
      cases hsz:x5 P te with
      |false=>cases op<;>simp only[cOp,hu,hx,hy,hsz]at e<;>exact(zc rfl e).elim
      |true=>
       cases op<;>simp only[cOp,hu,hx,hy,hsz]at e<;>try (exact(zc rfl e).elim)
       case eql=>exact zlL (call:=call) H (neg:=false) rfl hu hsz ox.1 oy.1 e
       case neq=>exact zlL (call:=call) H (neg:=true) rfl hu hsz ox.1 oy.1 e
     case func ps rs va=>
      cases op<;>simp only[cOp,hu,hx,hy]at e<;>try (exact(zc rfl e).elim)
      case eql=>exact zqm (call:=call) H (neg:=false) rfl hu ox.1 oy.1 e
      case neq=>exact zqm (call:=call) H (neg:=true) rfl hu ox.1 oy.1 e
     all_goals
      cases op<;>simp only[cOp,hu,hx,hy]at e<;>first
       |exact eq_case (by intro k hk;cases hk) (by intro hk;cases hk) false rfl e
       |exact eq_case (by intro k hk;cases hk) (by intro hk;cases hk) true rfl e
       |(exfalso;revert e;cases P.eqGuardType P.depth ty<;>(intro e;exact zc rfl e))
 case call c=>
  obtain⟨callee,args,argTypes⟩:=c;cases callee with
  |value f=>cases hp
  |invoke r m=>cases hp
  |builtin b=>
   cases b<;>try (simp only[cOp]at e;exact(zc rfl e).elim)
   case len=>
    cases hat:argTypes[0]? with
    |none=>simp only[cOp,hat]at e;exact(zc rfl e).elim
    |some ty=>
     cases har:args[0]? with
     |none=>simp only[cOp,hat,har]at e;exact(zc rfl e).elim
     |some x=>
      cases hu:P.underlying ty with
      |none=>simp only[cOp,hat,har,hu]at e;exact(zc rfl e).elim
      |some d=>
       have ha:(args.map a.eval)[0]? = some (a.eval x):=by simp[har]
       unfold execOp;simp only[ho];simp only[resolve,invoke,builtin,pure,bind,Sem.bind];cases d<;>try (simp only[cOp,hat,har,hu]at e;exact(zc rfl e).elim)
       case array len el=>
        simp only[cOp,hat,har,hu]at e;cases e;refine Done.same H ?_ (zw ?_)
        ·exact trivial
        ·simp[Builtin.len_,hat,ha,run_underlying hu,goInt];rfl
       case string=>
        cases hx:zwM x with
        |none=>simp only[cOp,hat,har,hu,hx]at e;exact(zc rfl e).elim
        |some f=>simp only[cOp,hat,har,hu,hx]at e;exact zty (call:=call) H hu (zn T hx).1 hat ha e
       case slice el=>
        cases hx:zwM x with
        |none=>simp only[cOp,hat,har,hu,hx]at e;exact(zc rfl e).elim
        |some f=>simp only[cOp,hat,har,hu,hx]at e;exact ztA (call:=call) H hu (zn T hx).1 hat ha e
       case map k el=>
        cases hx:zwM x with
        |none=>simp only[cOp,hat,har,hu,hx]at e;exact(zc rfl e).elim
        |some f=>simp only[cOp,hat,har,hu,hx]at e;exact ztz (call:=call) H hu (zn T hx).1 hat ha e
   case append=>
    obtain⟨ats⟩:=argTypes;obtain⟨ars⟩:=args;cases ats with
    |nil=>simp only[cOp]at e;exact(zc rfl e).elim
    |cons ty ats=>
     cases ats with
     |nil=>simp only[cOp]at e;exact(zc rfl e).elim
     |cons tx ats=>
      cases ats with
      |cons _ _=>simp only[cOp]at e;exact(zc rfl e).elim
      |nil=>
       cases ars with
       |nil=>simp only[cOp]at e;exact(zc rfl e).elim
       |cons s ars=>
        cases ars with
        |nil=>simp only[cOp]at e;exact(zc rfl e).elim
        |cons x ars=>
         cases ars with
         |cons _ _=>simp only[cOp]at e;exact(zc rfl e).elim
         |nil=>
          simp only[cOp]at e;cases hu:P.underlying ty with
          |none=>rw[hu]at e;exact(zc rfl e).elim
          |some d=>
           rw[hu]at e;cases d<;>try (exact(zc rfl e).elim)
           case slice el=>
            simp only at e;cases hi:P.info? el with
            |none=>rw[hi]at e;exact(zc rfl e).elim
            |some i=>
             cases hz:yl P el with
             |none=>rw[hi,hz]at e;exact(zc rfl e).elim
             |some z=>
              rw[hi,hz]at e;simp only at e;cases hb:(Nat.beq z.cells.length i.size && !Nat.beq i.size 0) with
              |false=>rw[hb]at e;exact(zc rfl e).elim
              |true=>
               rw[hb]at e;simp only[LzC]at hb;cases hu2:P.underlying tx with
               |none=>rw[hu2]at e;exact(zc rfl e).elim
               |some d2=>
                rw[hu2]at e;cases hs:zwM s with
                |none=>rw[hs]at e;cases d2<;>first|exact(zc rfl e).elim|(cases hq:Nat.beq i.size 1<;>simp only[hq]at e<;>exact(zc rfl e).elim)|(cases hq:(yM P el&&Nat.beq i.size 1)<;>simp only[hq]at e<;>exact(zc rfl e).elim)
                |some fs=>
                 cases hx:zwM x with
                 |none=>rw[hs,hx]at e;cases d2<;>first|exact(zc rfl e).elim|(cases hq:Nat.beq i.size 1<;>simp only[hq]at e<;>exact(zc rfl e).elim)|(cases hq:(yM P el&&Nat.beq i.size 1)<;>simp only[hq]at e<;>exact(zc rfl e).elim)
                 |some fx=>
                  rw[hs,hx]at e;unfold execOp;simp only[ho];simp only[resolve,invoke,builtin,pure,bind,Sem.bind];have hmm:Array.map a.eval ⟨[s,x]⟩=#[a.eval s,a.eval x]:=by simp
                  rw[hmm];cases d2<;>try (exact(zc rfl e).elim)
                  case slice el2=>
                   simp only at e;cases hq:yM P el&&Nat.beq i.size 1 with
                   |false=>rw[hq]at e;exact qy (call:=call) H hu hi hz (beq_true hb.1) (.inl ⟨rfl,_,hu2⟩) (zn T hs) (zn T hx).1 e
                   |true=>
                    rw[hq]at e;rw[LzC]at hq;exact zlP (call:=call) H hu hi hz (beq_true hb.1) (beq_true hq.2) hu2 (zn T hs) (zn T hx).1 e
                  case string=>
                   simp only at e;cases h1:Nat.beq i.size 1 with
                   |false=>rw[h1]at e;exact(zc rfl e).elim
                   |true=>rw[h1]at e;exact zlO (call:=call) H hu hi hz (beq_true hb.1) (beq_true h1) hu2 (zn T hs) (zn T hx).1 e
   case unsafeSliceData=>
    obtain⟨ars⟩:=args;cases ars with
    |nil=>simp only[cOp]at e;exact(zc rfl e).elim
    |cons x ars=>
     cases ars with
     |cons _ _=>simp only[cOp]at e;exact(zc rfl e).elim
     |nil=>
      simp only[cOp]at e;cases hx:zwM x with
      |none=>rw[hx]at e;exact(zc rfl e).elim
      |some f=>
       rw[hx]at e;unfold execOp;simp only[ho];simp only[resolve,invoke,builtin,pure,bind,Sem.bind];have hmm:Array.map a.eval ⟨[x]⟩=#[a.eval x]:=by simp
       rw[hmm];exact zha (call:=call) H (zn T hx) e
   case unsafeString=>
    obtain⟨ats⟩:=argTypes;obtain⟨ars⟩:=args;cases ats with
    |nil=>simp only[cOp]at e;exact(zc rfl e).elim
    |cons pt ats=>
     cases ats with
     |nil=>simp only[cOp]at e;exact(zc rfl e).elim
     |cons it ats=>
      cases ats with
      |cons _ _=>simp only[cOp]at e;exact(zc rfl e).elim
      |nil=>
       cases ars with
       |nil=>simp only[cOp]at e;exact(zc rfl e).elim
       |cons x ars=>
        cases ars with
        |nil=>simp only[cOp]at e;exact(zc rfl e).elim
        |cons y ars=>
         cases ars with
         |cons _ _=>simp only[cOp]at e;exact(zc rfl e).elim
         |nil=>
          simp only[cOp]at e;cases hu:P.underlying pt with
          |none=>rw[hu]at e;exact(zc rfl e).elim
          |some d=>
           rw[hu]at e;cases d<;>try (exact(zc rfl e).elim)
           case pointer el=>
            simp only at e;cases hb:yM P el&&Nat.beq (P.cellsOf el) 1 with
            |false=>rw[hb]at e;exact(zc rfl e).elim
            |true=>
             rw[hb]at e;simp only[LzC]at hb;cases hx:zwM x with
             |none=>rw[hx]at e;exact(zc rfl e).elim
             |some fx=>
              cases hy:zwM y with
              |none=>rw[hx,hy]at e;exact(zc rfl e).elim
              |some fy=>
               rw[hx,hy]at e;unfold execOp;simp only[ho];simp only[resolve,invoke,builtin,pure,bind,Sem.bind];have hmm:Array.map a.eval ⟨[x,y]⟩=#[a.eval x,a.eval y]:=by simp
               rw[hmm];exact ztE (call:=call) H hu (beq_true hb.2) (zn T hx).1 (zn T hy).1 e
   case cap=>
    cases hat:argTypes[0]? with
    |none=>simp only[cOp,hat]at e;exact(zc rfl e).elim
    |some ty=>
     cases har:args[0]? with
     |none=>simp only[cOp,hat,har]at e;exact(zc rfl e).elim
     |some x=>
      cases hu:P.underlying ty with
      |none=>simp only[cOp,hat,har,hu]at e;exact(zc rfl e).elim
      |some d=>
       have ha:(args.map a.eval)[0]? = some (a.eval x):=by simp[har]
       unfold execOp;simp only[ho];simp only[resolve,invoke,builtin,pure,bind,Sem.bind];cases d<;>try (simp only[cOp,hat,har,hu]at e;exact(zc rfl e).elim)
       case slice el=>
        cases hx:zwM x with
        |none=>simp only[cOp,hat,har,hu,hx]at e;exact(zc rfl e).elim
        |some f=>simp only[cOp,hat,har,hu,hx]at e;exact zvC (call:=call) H hu (zn T hx).1 hat ha e
   case copy=>
    obtain⟨ats⟩:=argTypes;obtain⟨ars⟩:=args;cases ats with
    |nil=>simp only[cOp]at e;exact(zc rfl e).elim
    |cons ty ats=>
     cases ats with
     |nil=>simp only[cOp]at e;exact(zc rfl e).elim
     |cons tx ats=>
      cases ats with
      |cons _ _=>simp only[cOp]at e;exact(zc rfl e).elim
      |nil=>
       cases ars with
       |nil=>simp only[cOp]at e;exact(zc rfl e).elim
       |cons x ars=>
        cases ars with
        |nil=>simp only[cOp]at e;exact(zc rfl e).elim
        |cons y ars=>
         cases ars with
         |cons _ _=>simp only[cOp]at e;exact(zc rfl e).elim
         |nil=>
          simp only[cOp]at e;cases hu:P.underlying ty with
          |none=>rw[hu]at e;exact(zc rfl e).elim
          |some d=>
           cases hu2:P.underlying tx with
           |none=>rw[hu,hu2]at e;cases d<;>exact(zc rfl e).elim
           |some d2=>
            rw[hu,hu2]at e;cases d<;>cases d2<;>try (exact(zc rfl e).elim)
            rename_i el el2;simp only at e;cases hi:P.info? el with
            |none=>rw[hi]at e;exact(zc rfl e).elim
            |some i=>
             rw[hi]at e;simp only at e;cases h0:Nat.beq i.size 0 with
             |true=>rw[h0]at e;exact(zc rfl e).elim
             |false=>
              rw[h0]at e;cases hx:zwM x with
              |none=>rw[hx]at e;exact(zc rfl e).elim
              |some fx=>
               cases hy:zwM y with
               |none=>rw[hx,hy]at e;exact(zc rfl e).elim
               |some fy=>
                rw[hx,hy]at e;unfold execOp;simp only[ho];simp only[resolve,invoke,builtin,pure,bind,Sem.bind];have hmm:Array.map a.eval ⟨[x,y]⟩=#[a.eval x,a.eval y]:=by simp
                rw[hmm];exact ztC (call:=call) H hu hi (zn T hx).1 (zn T hy).1 e
   case clear=>
    cases hat:argTypes[0]? with
    |none=>simp only[cOp,hat]at e;exact(zc rfl e).elim
    |some ty=>
     cases har:args[0]? with
     |none=>simp only[cOp,hat,har]at e;exact(zc rfl e).elim
     |some x=>
      cases hu:P.underlying ty with
      |none=>simp only[cOp,hat,har,hu]at e;exact(zc rfl e).elim
      |some d=>
       cases d<;>try (simp only[cOp,hat,har,hu]at e;exact(zc rfl e).elim)
       case slice el=>
        cases hi:P.info? el with
        |none=>simp only[cOp,hat,har,hu,hi]at e;exact(zc rfl e).elim
        |some i=>
         cases hz:yl P el with
         |none=>simp only[cOp,hat,har,hu,hi,hz]at e;exact(zc rfl e).elim
         |some z=>
          simp only[cOp,hat,har,hu,hi,hz]at e;cases hb:(Nat.beq z.cells.length i.size && !Nat.beq i.size 0) with
          |false=>rw[hb]at e;exact(zc rfl e).elim
          |true=>
           rw[hb]at e;simp only[LzC,YzN]at hb;cases hx:zwM x with
           |none=>rw[hx]at e;exact(zc rfl e).elim
           |some f=>
            rw[hx]at e;have ha:(args.map a.eval)[0]? = some (a.eval x):=by simp[har]
            unfold execOp;simp only[ho];simp only[resolve,invoke,builtin,pure,bind,Sem.bind];exact zrs (call:=call) H hu hi hz (beq_true hb.1) (beq_false hb.2) (zn T hx).1 hat ha e
   case max=>
    simp only[cOp]at e;cases hx:args.toList with
    |nil=>rw[hx]at e;exact(zc rfl e).elim
    |cons x xs=>
     rw[hx]at e;simp only[uh]at e;cases h1:zwM x with
     |none=>rw[h1]at e;exact(zc rfl e).elim
     |some f=>
      cases h2':uh xs with
      |none=>rw[h1,h2']at e;exact(zc rfl e).elim
      |some fs=>
       rw[h1,h2']at e;unfold execOp;simp only[ho];simp only[resolve,invoke,builtin,pure,bind,Sem.bind];refine ziz (call:=call) (isMax:=true) H T h1 h2' (s:=fun as=>Builtin.max_ _ _ as) (fun as ha=>?_) (by simp[hx]) e;unfold Builtin.max_;rw[ha];rfl
   case min=>
    simp only[cOp]at e;cases hx:args.toList with
    |nil=>rw[hx]at e;exact(zc rfl e).elim
    |cons x xs=>
     rw[hx]at e;simp only[uh]at e;cases h1:zwM x with
     |none=>rw[h1]at e;exact(zc rfl e).elim
     |some f=>
      cases h2':uh xs with
      |none=>rw[h1,h2']at e;exact(zc rfl e).elim
      |some fs=>
       rw[h1,h2']at e;unfold execOp;simp only[ho];simp only[resolve,invoke,builtin,pure,bind,Sem.bind];refine ziz (call:=call) (isMax:=false) H T h1 h2' (s:=fun as=>Builtin.min_ _ _ as) (fun as ha=>?_) (by simp[hx]) e;unfold Builtin.min_;rw[ha];rfl
end
end Go.CE
end
section
namespace Go.CE
open Go.RowKit
abbrev FR(ro:Option Nat):Fence:={ Fence.wide with round:=ro }
theorem zjZ{ro:Option Nat}{n:Nat}{P:Program}{f:FuncId}{args:Array Value}{w:World}{R:Ending→World→Prop}(h:CallsIn (FR none) n P f args w R):CallsIn (FR ro) n P f args w R:=h
theorem zqc{ro:Option Nat}{n:Nat}{P:Program}{l:Nat}{f:FuncId}{tmps:Array Value}{assign body:Code}{w:World}{R:Ending→World→Prop}(h:RoundIn (FR none) n P l f tmps assign body w R):RoundIn (FR ro) n P l f tmps assign body w R:=h
def Ret(w0:World)(S:Nat→Prop)(φ:Phi)(h:Za)(v:Zb)(h2:Za)(e:Ending)(w2:World):Prop:=
 ∃φ2,e=.returned (zq φ2 v)∧Ext h.n.toNat φ φ2∧Zd w0 S φ2 h2 w2∧wfA φ2 h2.n.toNat v∧h.n.toNat≤h2.n.toNat
def yT(P:Program)(call:zg):Prop:=
 ∀(w0:World) (S:Nat→Prop) (φ:Phi) (h:Za) (w:World) (args:List Zb) (v:Zb) (h2:Za),Zd w0 S φ h w→(∀x∈args,wfA φ h.n.toNat x)→
  (∀g,call (.inl g) args h=some (v,h2)→(∀as w,(callFunc g as).run P w=.ok (.enter g as) w)∧CallsIn (FR none) 0 P g (args.map (zq φ)).toArray w (Ret w0 S φ h v h2))∧
  (∀ l, call (.inr l) args h = some (v, h2) → ∃ f tmps assign body, (Instr.yield (φ l).blk (args.map (zq φ)).toArray).run P w = .ok (.round (φ l).blk f tmps assign body) w ∧
   RoundIn (FR none) 0 P (φ l).blk f tmps assign body w (Ret w0 S φ h v h2))
def Next1(w0:World)(S:Nat→Prop)(φ:Phi)(nt:Nat)(h:Za)(t2:Tr Zb)(h2:Za)(a:Act)(a2:Act)(w2:World):Prop:=
 ∃φ2,Ext h.n.toNat φ φ2∧Zd w0 S φ2 h2 w2∧Zi φ2 nt h2.n.toNat t2 a2.tmps∧a2.defers=a.defers∧h.n.toNat≤h2.n.toNat
section
variable {P:Program} {w0:World} {S:Nat→Prop} {φ:Phi} {h h2:Za} {w w2:World} {nt:Nat} {t t2:Tr Zb} {a:Act} {v:Zb} {call:zg} {ro:Option Nat}
theorem znU{c:Call}(e:cOp P (.defer c) call t h=some (v,h2)):False:=by cases e
theorem put_defers(a:Act)(d:Option Tmp)(x:Value):(a.put d x).defers=a.defers:=by cases d<;>rfl
theorem zpg(T:Zi φ nt h.n.toNat t a.tmps){φ2:Phi}(he:Ext h.n.toNat φ φ2)(H2:Zd w0 S φ2 h2 w2)(hv:wfA φ2 h2.n.toNat v)(hn:h.n.toNat≤h2.n.toNat)(dst:Option Nat)(hd:inT nt dst=true):
  Next1 w0 S φ nt h (zxg t v (dst.map bn)) h2 a (a.put dst (zq φ2 v)) w2:=
 ⟨φ2,he,H2,Zi.put (T.ext he hn) hv dst hd,put_defers _ _ _,hn⟩
theorem zfO(C:yT P call)(H:Zd w0 S φ h w){ar:Act}(T:Zi φ nt h.n.toNat t ar.tmps){o:Oper}(hx:execOp a.eval o=execOp ar.eval o)(e:cOp P o.op call t h=some (v,h2)){K:Act→World→Prop}{Q:Exit→Act→World→Prop}
  (hK:∀φ2 w2,Ext h.n.toNat φ φ2→Zd w0 S φ2 h2 w2→wfA φ2 h2.n.toNat v→h.n.toNat≤h2.n.toNat→K (a.put o.dst (zq φ2 v)) w2):o.wpIn (FR ro) 0 P a w K Q:=by
 refine⟨fun f _=>trivial,?_⟩;rw[Oper.semAt_eq _ _ _ (fun c hc=>by rw[hc]at e;exact znU e)];show o.uponIn (FR ro) 0 P a K Q ((execOp a.eval o).run P w);rw[hx];by_cases hp:zl8 o.op=true
 ·obtain⟨φ2,w2,hr,he,H2,hv,hn⟩:=zo4 (P:=P) H T hp e;rcases hr with hr|⟨hr,hu⟩
  ·rw[hr];exact hK _ _ he H2 hv hn
  ·rw[hr];subst hu;exact hK _ _ he H2 hv hn
 ·cases ho:o.op<;>rw[ho]at hp<;>try (exact absurd rfl hp)
  rename_i c;obtain⟨callee,args,argTypes⟩:=c;cases callee with
  |builtin b=>exact absurd rfl hp
  |invoke r m=>rw[ho]at e;cases e
  |value f=>
   rw[ho]at e;cases hk:Nat.beq (qe P f) 0 with
   |false=>
    simp only[cOp,hk]at e;have e:yi (zzb zwM (qe P f) args.toList) call t h=some (v,h2):=e;obtain⟨g,rfl,hext⟩:=zsJ (P:=P) (f:=f) rfl (beq_false hk);obtain⟨args⟩:=args;have hfv:ar.eval (.func g)=.func (.func g) #[] #[]:=rfl;unfold zzb at e;split at e
    ·rename_i x hargs;cases h1:Nat.beq (qe P (.func g)) 1 with
     |false=>rw[h1]at e;exact(zc rfl e).elim
     |true=>
      rw[h1]at e;simp only[Yza]at e;cases hx:zwM x with
      |none=>rw[hx]at e;exact(zc rfl e).elim
      |some fx=>
       rw[hx]at e;have e:zxJ fx call t h=some (v,h2):=e;cases e;have ox:=zn T hx;rcases hext with⟨_,hrun⟩|⟨h2',_⟩
       ·have hal:args=[x]:=hargs;subst hal;have hr:(execOp ar.eval o).run P w=.ok (.value (zq φ (fx t))) w:=by
         unfold execOp;simp only[ho,resolve,hfv,Deferred.ofValue,Sem.run_bind,Sem.run_pure,Result.andThen_ok,invoke,Array.empty_append];have hmm:Array.map ar.eval ⟨[x]⟩ ++ #[]=#[ar.eval x]:=by simp
         rw[hmm,hrun,ox.1]
        rw[hr];exact hK φ w (Ext.refl _ _) H ox.2 (LzB _)
       ·rw[h2']at h1;cases h1
    ·rename_i x y hargs;cases h1:Nat.beq (qe P (.func g)) 2 with
     |false=>rw[h1]at e;exact(zc rfl e).elim
     |true=>
      rw[h1]at e;simp only[Yza]at e;cases hx:zwM x with
      |none=>rw[hx]at e;exact(zc rfl e).elim
      |some fx=>
       cases hy:zwM y with
       |none=>rw[hx,hy]at e;exact(zc rfl e).elim
       |some fy=>
        rw[hx,hy]at e;have e:ziS fx fy call t h=some (v,h2):=e;have ox:=zn T hx;have oy:=zn T hy;unfold ziS at e;split at e
        ·rename_i sx sy hsx hsy;cases e;rw[hsx]at ox;rw[hsy]at oy;rcases hext with⟨h2',_⟩|⟨_,hrun⟩
         ·rw[h2']at h1;cases h1
         ·have hal:args=[x,y]:=hargs;subst hal;have hr:(execOp ar.eval o).run P w=.ok (.value (.int .i64 (zyt sx.data.toList sy.data.toList))) w:=by
           unfold execOp;simp only[ho,resolve,hfv,Deferred.ofValue,Sem.run_bind,Sem.run_pure,Result.andThen_ok,invoke,Array.empty_append];have hmm:Array.map ar.eval ⟨[x,y]⟩ ++ #[]=#[.string sx,.string sy]:=by
            have h1:ar.eval x=.string sx:=ox.1;have h2:ar.eval y=.string sy:=oy.1;simp[h1,h2]
           rw[hmm,hrun]
          rw[hr];exact hK φ w (Ext.refl _ _) H trivial (LzB _)
        ·cases e
    ·exact(zc rfl e).elim
   |true=>
   cases hf:zwM f with
   |none=>simp only[cOp,hk,hf]at e;exact(zc rfl e).elim
   |some ff=>
    cases ha:uh args.toList with
    |none=>simp only[cOp,hk,hf,ha]at e;exact(zc rfl e).elim
    |some fa=>
     simp only[cOp,hk,hf,ha]at e;have e:zdn ff fa call t h=some (v,h2):=e;have of:=zn T hf;have oa:=zb0 T ha;have hargs:args.map ar.eval=((fa.map fun f=>f t).map (zq φ)).toArray:=by
      apply Array.ext';rw[Array.toList_map,oa.1]
     unfold execOp;simp only[ho];unfold zdn at e;split at e
     ·rename_i g caps hg;rw[hg]at of;have hcap:∀x∈(caps.map fun p=>Zb.s (.one (.ptr p.1 p.2))),wfA φ h.n.toNat x:=by
       intro x hx;obtain⟨p,hp',rfl⟩:=List.mem_map.1 hx;exact of.2 p hp'
      obtain⟨hcf,hcall⟩:=(C w0 S φ h w _ v h2 H (by
       intro x hx;rcases Yys.1 hx with hx|hx
       ·exact oa.2 x hx
       ·exact hcap x hx)).1 g e
      have hargs2:((fa.map (fun x=>x t)++caps.map fun p=>Zb.s (.one (.ptr p.1 p.2))).map (zq φ)).toArray=args.map ar.eval++(caps.map fun p=>Value.pointer (some (adr φ p.1 p.2))).toArray:=by
       rw[hargs,YzH,List.append_toArray]
       congr 2
       simp[YyD,Function.comp_def,zq,zI,zj]
      rw[hargs2]at hcall;have hfv:ar.eval f=.func (.func g) #[] (caps.map fun p=>Value.pointer (some (adr φ p.1 p.2))).toArray:=of.1;simp only[resolve,hfv,Deferred.ofValue,Sem.run_bind,Sem.run_pure,Result.andThen_ok,invoke,Array.empty_append,hcf];refine⟨fun hh=>by simp[Fence.wide]at hh,zjZ hcall |>.mono ?_⟩
      rintro e9 w9 ⟨φ2,rfl,he,H2,hv,hn⟩
      exact hK _ _ he H2 hv hn
     ·rename_i l hl;rw[hl]at of;obtain⟨f9,tmps,assign,body,hy,hround⟩:=(C w0 S φ h w _ v h2 H oa.2).2 l e;rw[←hargs]at hy;have hfv:ar.eval f=.func (.yield (φ l).blk) #[] #[]:=of.1;simp only[resolve,hfv,Deferred.ofValue,Sem.run_bind,Sem.run_pure,Result.andThen_ok,invoke,Array.empty_append,hy];refine⟨fun hh=>by simp[Fence.wide]at hh,zqc hround |>.mono ?_⟩
      rintro e9 w9 ⟨φ2,rfl,he,H2,hv,hn⟩
      exact hK _ _ he H2 hv hn
     ·cases e
theorem zvM(C:yT P call)(H:Zd w0 S φ h w)(T:Zi φ nt h.n.toNat t a.tmps){o:Oper}(hd:inT nt o.dst=true)(e:cOp P o.op call t h=some (v,h2)){K:Act→World→Prop}{Q:Exit→Act→World→Prop}
  (hK:∀a2 w2,Next1 w0 S φ nt h (zxg t v (o.dst.map bn)) h2 a a2 w2→K a2 w2):o.wpIn (FR ro) 0 P a w K Q:=
 zfO C H T rfl e fun _ _ he H2 hv hn=>hK _ _ (zpg T he H2 hv hn o.dst hd)
theorem zam(T:Zi φ nt h.n.toNat t a.tmps){ops:Array Oper}{j d:Nat}(hj:(ops[j]?).bind (·.dst)=some d)(hd:d<nt)(b:Bool):
  (yielded ops a.tmps j==some b)=want t (some (bn d,b)):=by
 unfold yielded want;rw[hj];simp only[Yz0];rw[T.get d hd];cases hg:t.get (bn d) with
 |none=>rfl
 |some x=>
  simp only[Yyg];cases x with
  |tup vs=>rfl
  |s y=>
   cases y with
   |agg cs=>rfl
   |one c=>cases c<;>rfl
theorem znT{ops:Array Oper}{o:Oper}(e:za9 call (yU P nt ops o) t h=some (t2,h2))(T:Zi φ nt h.n.toNat t a.tmps):inT nt o.dst=true∧
    ((Region.wanted o (yielded ops a.tmps) = true ∧ ∃ v, cOp P o.op call t h = some (v, h2) ∧ t2 = zxg t v (o.dst.map bn)) ∨
     (Region.wanted o (yielded ops a.tmps)=false∧t2=zxg t yh (o.dst.map bn)∧h2=h)):=by
  unfold yU at e;have bad:∀{o':Zo},o'=⟨none,y9,none⟩→za9 call o' t h=some (t2,h2)→False:=by
    intro o' ho' e;subst ho';cases e
  cases hd:inT nt o.dst with
  |false=>rw[hd]at e;exact(bad rfl e).elim
  |true=>
    rw[hd]at e;refine⟨rfl,?_⟩;simp only[Yza]at e;have fin:∀g,za9 call ⟨o.dst.map bn,cOp P o.op,g⟩ t h=some (t2,h2)→(want t g=true∧∃v,cOp P o.op call t h=some (v,h2)∧t2=zxg t v (o.dst.map bn))∨(want t g=false∧t2=zxg t yh (o.dst.map bn)∧h2=h):=by
      intro g e;unfold za9 at e;simp only at e;cases hw:want t g with
      |false=>rw[hw]at e;cases e;exact .inr ⟨rfl,rfl,rfl⟩
      |true=>
        rw[hw]at e;simp only[Yza]at e;unfold zzI at e;split at e
        · rename_i v9 h9 hv;cases e;exact .inl ⟨rfl,v9,hv,rfl⟩
        · cases e
    split at e
    · rename_i hg
      rcases fin none e with hh|⟨hw,_⟩
      · exact .inl ⟨by simp[Region.wanted,hg],hh.2⟩
      · cases hw
    · rename_i j b hg
      split at e
      · rename_i d hjd
        cases hb:Nat.ble (Nat.succ d) nt with
        |false=>rw[hb]at e;exact(bad rfl e).elim
        |true=>
          rw[hb]at e;have hyd:=zam T hjd (yb hb) b;rcases fin (some (bn d,b)) e with⟨hw,hh⟩|⟨hw,hh⟩
          · exact .inl ⟨by simp only[Region.wanted,hg];rw[hyd];exact hw,hh⟩
          · exact .inr ⟨by simp only[Region.wanted,hg];rw[hyd];exact hw,hh⟩
      · exact(bad rfl e).elim
theorem zdO(o:Zo)(os:List Zo):zk0 call (o::os) t h=match za9 call o t h with|some (t2,h2)=>zk0 call os t2 h2|none=>none:=rfl
theorem Next1.refl(H:Zd w0 S φ h w)(T:Zi φ nt h.n.toNat t a.tmps):Next1 w0 S φ nt h t h a a w:=⟨φ,Ext.refl _ _,H,T,rfl,LzB _⟩
theorem zmg(C:yT P call){ops:Array Oper}{Q:Exit→Act→World→Prop}:∀(l:List Oper) {φ:Phi} {h:Za} {w:World} {t:Tr Zb} {a:Act},Zd w0 S φ h w→Zi φ nt h.n.toNat t a.tmps→
  zk0 call (l.map (yU P nt ops)) t h=some (t2,h2)→(∀a2 w2,Next1 w0 S φ nt h t2 h2 a a2 w2→Q .normal a2 w2)→wpListIn (FR ro) 0 P ops Q l a w
 | [],φ,h,w,t,a,H,T,e,hQ=>by
  cases e;exact hQ _ _ (Next1.refl H T)
 |o::l,φ,h,w,t,a,H,T,e,hQ=>by
  simp only[Yzp]at e;rw[zdO]at e;split at e
  ·rename_i t1 h1 ho;obtain⟨hd,hh⟩:=znT ho T;unfold wpListIn;rcases hh with⟨hw,v,hv,rfl⟩|⟨hw,rfl,rfl⟩
   ·rw[Yzd hw];refine zvM C H T hd hv fun a2 w2 hn=>?_;obtain⟨φ2,he,H2,T2,hdef,hle⟩:=hn;refine zmg C l H2 T2 e fun a3 w3 hn3=>hQ a3 w3 ?_;obtain⟨φ3,he3,H3,T3,hdef3,hle3⟩:=hn3;exact⟨φ3,he.trans he3 hle,H3,T3,hdef3.trans hdef,YzA hle hle3⟩
   ·rw[Yzb (by rw[hw];simp)];refine⟨fun f _=>trivial,?_⟩;have T2:=Zi.put T (v:=yh) (fun _ hv=>by cases hv) o.dst hd;refine zmg C l H T2 e fun a3 w3 hn3=>hQ a3 w3 ?_;obtain⟨φ3,he3,H3,T3,hdef3,hle3⟩:=hn3;exact⟨φ3,he3,H3,T3,hdef3.trans (put_defers _ _ _),hle3⟩
  ·cases e
end
end Go.CE
end
section
namespace Go.CE
open Go.RowKit
def zzQ:Zh→Exit
 | .normal=>.normal
 | .exit id=>.exit id
 | .ret=>.ret
def marks(φ:Phi)(d:List BN):List Deferred:=d.map fun b=>{ target:=.collected (φ b).blk,args:=#[] }
structure Zu (w0:World) (S:Nat→Prop) (φ:Phi) (nt:Nat) (s:St) (a:Act) (w:World):Prop where
 H:Zd w0 S φ s.h w
 T:Zi φ nt s.h.n.toNat s.t a.tmps
 D:a.defers=marks φ s.d
 dn:∀b∈s.d,okB φ s.h.n.toNat b
def After(w0:World)(S:Nat→Prop)(φ:Phi)(nt:Nat)(h:Za)(s2:St)(a2:Act)(w2:World):Prop:=
 ∃φ2,Ext h.n.toNat φ φ2∧Zu w0 S φ2 nt s2 a2 w2∧h.n.toNat≤s2.h.n.toNat
def RoRel(φ:Phi)(n:Nat):Option BN→Option Nat→Prop
 |none,ro=>ro=none
 |some l,ro=>ro=some (φ l).blk∧okB φ n l
theorem RoRel.ext{φ φ2:Phi}{n m:Nat}{round:Option BN}{ro:Option Nat}(h:RoRel φ n round ro)(he:Ext n φ φ2)(hn:n≤m):RoRel φ2 m round ro:=by
 cases round with
 |none=>exact h
 |some l=>exact⟨by rw[he l h.2.1];exact h.1,okB.ext he hn h.2⟩
theorem zcg{φ φ2:Phi}{n:Nat}(he:Ext n φ φ2){d:List BN}(hd:∀b∈d,okB φ n b):marks φ2 d=marks φ d:=
 Yyh fun b hb=>by rw[he b (hd b hb).1]
theorem After.trans{w0:World}{S:Nat→Prop}{φ φ1:Phi}{nt:Nat}{h h1:Za}{s2:St}{a2:Act}{w2:World}(he:Ext h.n.toNat φ φ1)(hn:h.n.toNat≤h1.n.toNat)(hA:After w0 S φ1 nt h1 s2 a2 w2):After w0 S φ nt h s2 a2 w2:=by
 obtain⟨φ2,he2,hs,hle⟩:=hA;exact⟨φ2,he.trans he2 hn,hs,YzA hn hle⟩
section
variable {P:Program} {w0:World} {S:Nat→Prop} {nt:Nat} {call:zg}
def vZ(P:Program)(w0:World)(S:Nat→Prop)(nt:Nat)(call:zg)(c:Code):Prop:=
 ∀(f fn:Nat) (round:Option BN) (ro:Option Nat) (φ:Phi) (s s2:St) (e:Zh) (a:Act) (w:World) (Q:Exit→Act→World→Prop),zX P nt c call f fn round s=some (e,s2)→Zu w0 S φ nt s a w→RoRel φ s.h.n.toNat round ro→
  (∀a2 w2,After w0 S φ nt s.h s2 a2 w2→Q (zzQ e) a2 w2)→c.wpIn (FR ro) 0 P Q a w
theorem Zu.after{φ:Phi}{s:St}{a:Act}{w:World}(R:Zu w0 S φ nt s a w):After w0 S φ nt s.h s a w:=⟨φ,Ext.refl _ _,R,LzB _⟩
theorem zau{φ:Phi}{s:St}{a a2:Act}{w w2:World}{t2:Tr Zb}{h2:Za}(R:Zu w0 S φ nt s a w)(hn:Next1 w0 S φ nt s.h t2 h2 a a2 w2):After w0 S φ nt s.h ⟨t2,s.d,h2⟩ a2 w2:=by
 obtain⟨φ2,he,H2,T2,hd,hle⟩:=hn;exact⟨φ2,he,⟨H2,T2,by rw[hd,R.D,zcg he R.dn],fun b hb=>okB.ext he hle (R.dn b hb)⟩,hle⟩
theorem zmi(C:yT P call)(id:Nat)(ops:Array Oper):vZ P w0 S nt call (.region id ops false):=by
 intro f fn round ro φ s s2 e a w Q hc R hr hQ;have hc:zzq (ops.toList.map (yU P nt ops)) call f fn round s=some (e,s2):=hc;obtain⟨t,d,h⟩:=s;simp only[zzq]at hc;cases he:zk0 call (ops.toList.map (yU P nt ops)) t h with
 |none=>rw[he]at hc;cases hc
 |some p=>
  obtain⟨t2,h2⟩:=p;rw[he]at hc;cases hc;exact wpIn_region_list (zmg C ops.toList R.H R.T he fun a2 w2 hn=>hQ a2 w2 (zau R hn))
theorem ztQ{x y:Code}(hx:vZ P w0 S nt call x)(hy:vZ P w0 S nt call y):vZ P w0 S nt call (.seq x y):=by
 intro f fn round ro φ s s2 e a w Q hc R hr hQ;have hc:zti call f fn round (zX P nt y) (zX P nt x call f fn round s)=some (e,s2):=hc;cases h1:zX P nt x call f fn round s with
 |none=>rw[h1]at hc;cases hc
 |some p=>
  obtain⟨e1,s1⟩:=p;rw[h1]at hc;refine wpIn_seq (hx f fn round ro φ s s1 e1 a w _ h1 R hr fun a1 w1 hA=>?_);cases e1 with
  |normal=>
   obtain⟨φ1,he1,R1,hle1⟩:=hA;show y.wpIn (FR ro) 0 P Q a1 w1;exact hy f fn round ro φ1 s1 s2 e a1 w1 Q hc R1 (hr.ext he1 hle1) fun a2 w2 hA2=>hQ a2 w2 (hA2.trans he1 hle1)
  |exit id=>cases hc;exact hQ a1 w1 hA
  |ret=>cases hc;exact hQ a1 w1 hA
theorem zrK{c:Operand}{x y:Code}(hx:vZ P w0 S nt call x)(hy:vZ P w0 S nt call y):vZ P w0 S nt call (.cond c x y):=by
 intro f fn round ro φ s s2 e a w Q hc R hr hQ;cases hf:zwM c with
 |none=>simp only[zX,hf]at hc;cases hc
 |some g=>
  simp only[zX,hf]at hc;obtain⟨t,d,h⟩:=s;simp only[zsS]at hc;split at hc
  ·rename_i q hq;have ho:=(zn R.T hf).1;simp only at ho;rw[hq]at ho;refine wpIn_cond (t:=q) ho ?_;cases q
   ·exact hy f fn round ro φ _ s2 e a w Q hc R hr hQ
   ·exact hx f fn round ro φ _ s2 e a w Q hc R hr hQ
  ·cases hc
theorem zo7{id:Nat}{x:Code}(hx:vZ P w0 S nt call x):vZ P w0 S nt call (.block id x):=by
 intro f fn round ro φ s s2 e a w Q hc R hr hQ;have hc:zzt id (zX P nt x call f fn round s)=some (e,s2):=hc;cases h1:zX P nt x call f fn round s with
 |none=>rw[h1]at hc;cases hc
 |some p=>
  obtain⟨e1,s1⟩:=p;rw[h1]at hc;refine wpIn_block (hx f fn round ro φ s s1 e1 a w _ h1 R hr fun a1 w1 hA=>?_);cases e1 with
  |normal=>cases hc;exact hQ a1 w1 hA
  |ret=>cases hc;exact hQ a1 w1 hA
  |exit id'=>
   simp only[zzt]at hc;show (if id'=id then Q .normal a1 w1 else Q (.exit id') a1 w1);cases hb:Nat.beq id' id with
   |true=>rw[hb]at hc;cases hc;rw[Yzd (beq_true hb)];exact hQ a1 w1 hA
   |false=>rw[hb]at hc;cases hc;rw[Yzb (beq_false hb)];exact hQ a1 w1 hA
theorem zkO(c:St→Option (Zh×St))(n:Nat)(s:St):zf2 c (n+1) s=match c s with|some (.normal,s2)=>zf2 c n s2|r=>r:=rfl
theorem zrJ{x:Code}(hx:vZ P w0 S nt call x):vZ P w0 S nt call (.loop x):=by
 intro f fn round ro φ s s2 e a w Q hc R hr hQ;have hc:zf2 (zX P nt x call f fn round) f s=some (e,s2):=hc;have key:∀(n:Nat) (φ:Phi) (s:St) (a:Act) (w:World),zf2 (zX P nt x call f fn round) n s=some (e,s2)→Zu w0 S φ nt s a w→RoRel φ s.h.n.toNat round ro→
   (∀a2 w2,After w0 S φ nt s.h s2 a2 w2→Q (zzQ e) a2 w2)→Code.roundsIn (FR ro) 0 P x Q n a w:=by
  intro n
  induction n with
  |zero=>intro φ s a w hc;cases hc
  |succ n ih=>
   intro φ s a w hc R hr hQ;rw[zkO]at hc;cases h1:zX P nt x call f fn round s with
   |none=>rw[h1]at hc;cases hc
   |some p=>
    obtain⟨e1,s1⟩:=p;rw[h1]at hc;rw[roundsIn_succ];refine hx f fn round ro φ s s1 e1 a w _ h1 R hr fun a1 w1 hA=>?_;cases e1 with
    |normal=>
     obtain⟨φ1,he1,R1,hle1⟩:=hA;show Code.roundsIn (FR ro) 0 P x Q n a1 w1;exact ih φ1 s1 a1 w1 hc R1 (hr.ext he1 hle1) fun a2 w2 hA2=>hQ a2 w2 (hA2.trans he1 hle1)
    |exit id=>cases hc;exact hQ a1 w1 hA
    |ret=>cases hc;exact hQ a1 w1 hA
 exact wpIn_loop_rounds f (key f φ s a w hc R hr hQ)
theorem zkq{t:Tr Zb}{ds:List BN}{l:BN}{r:Res}{e:Zh}{s2:St}(hc:zlZ t ds l r=some (e,s2)):
  ∃x h st pend lf ln lt lps la lb ld,r=some (x,h)∧h.t.get l=some (.loop st pend lf ln lt lps la lb ld)∧st≠.busy∧e=pend.getD .normal∧s2=⟨t,ds,h.put l (.loop .exhausted pend lf ln lt lps la lb ld)⟩:=by
 unfold zlZ at hc;split at hc
 ·rename_i x h;split at hc
  ·rename_i st pend lf ln lt lps la lb ld hl;split at hc
   ·cases hc
   ·rename_i hnb;cases hc;exact⟨x,h,st,pend,lf,ln,lt,lps,la,lb,ld,rfl,hl,hnb,rfl,rfl⟩
  ·cases hc
 ·cases hc
theorem zlh{ro:Option Nat}{Q:Exit→Act→World→Prop}{a:Act}{w:World}(e:Zh)(h:Q (zzQ e) a w):(za5 e).wpIn (FR ro) 0 P Q a w:=by
 cases e with
 |normal=>exact wpIn_skip h
 |exit id=>exact wpIn_exit h
 |ret=>exact wpIn_ret h
theorem zo5(C:yT P call){g:Operand}{ps:Array Tmp}{assign body:Code}:vZ P w0 S nt call (.rangeFunc g ps assign body):=by
 intro f fn round ro φ s s2 e a w Q hc R hr hQ;cases hg:zwM g with
 |none=>simp only[zX,hg]at hc;cases hc
 |some gg=>
  simp only[zX,hg]at hc;obtain⟨t,d,h⟩:=s;simp only[zqq]at hc;have R':=R;obtain⟨H,T,D,dn⟩:=R;simp only at H T D dn;split at hc
  ·cases hc
  ·rename_i bd ds h0 hD;split at hc
   ·rename_i gf caps hgv;obtain⟨xv,h3,st,pend,lf,ln,lt,lps,la,lb,ld,hcall,hl3,hnb,he,hs2⟩:=zkq hc;refine wpIn_rangeFunc fun fn' _=>?_;obtain⟨φ0,mark,w0',hE0,H0,hn0,hbd,hmark,hrunE⟩:∃(φ0:Phi) (mark:List Deferred) (w1:World),Ext h.n.toNat φ φ0∧Zd w0 S φ0 h0 w1∧h.n.toNat≤h0.n.toNat∧okB φ0 h0.n.toNat bd∧
      (marks φ0 ds=mark++a.defers∧∀b∈ds,okB φ0 h0.n.toNat b)∧
      (Instr.enterLoop fn' a.tmps ps assign body ro).run P w=.ok (w1.heap.size,mark) (w1.alloc (.loop { state:=.ready,pending:=none,fn:=fn',tmps:=a.tmps,params:=ps,assign:=assign,body:=body,defers:=(φ0 bd).blk })):=by
     cases round with
     |none=>
      have hro:ro=none:=hr;subst hro;simp only[zl0]at hD;cases hD;refine⟨upd φ h.n ⟨w.heap.size,0,0,true,none⟩,[{ target:=.collected w.heap.size,args:=#[] }],w.alloc (.deferred (some [])),ym _ _ _,H.new _ _ _ rfl ?_,by rw[yx];omega,⟨by rw[yx];omega,by rw[zo]⟩,⟨?_,?_⟩,?_⟩
      ·show _=_;rw[zo];exact heap_alloc_new w _
      ·show marks _ (h.n::d)=_;simp only[marks,Yzp,zo];have:=zcg (ym φ h.n ⟨w.heap.size,0,0,true,none⟩) dn;simp only[marks]at this;rw[this,D];rfl
      ·intro b hb;rw[yx];cases hb with
       |head=>exact⟨by omega,by rw[zo]⟩
       |tail _ hm=>exact okB.ext (ym _ _ _) (Yyt _) (dn b hm)
      ·rw[zo];have:=run_enterLoop_outer (P:=P) (w:=w) fn' a.tmps ps assign body;rw[this];simp
     |some l=>
      obtain⟨hro,hln⟩:=hr;subst hro;simp only[zl0]at hD;split at hD
      ·rename_i st9 p9 f9 n9 t9 ps9 a9 b9 d9 hl9;cases hD;obtain⟨arr,f8,g1,g2,g3⟩:=H.obj l _ hl9;refine⟨φ,[],w,Ext.refl _ _,H,LzB _,g3,⟨by rw[D];rfl,dn⟩,?_⟩;exact run_enterLoop_inner (P:=P) g1 fn' a.tmps ps assign body
      ·cases hD
    have T0:Zi φ0 nt h0.n.toNat t a.tmps:=T.ext hE0 hn0;have H1:Zd w0 S (upd φ0 h0.n ⟨w0'.heap.size,0,0,true,none⟩) (h0.new (.loop .ready none fn nt t ps assign body bd)) (w0'.alloc (.loop { state:=.ready,pending:=none,fn:=fn',tmps:=a.tmps,params:=ps,assign:=assign,body:=body,defers:=(φ0 bd).blk })):=by
     refine H0.new _ _ ⟨w0'.heap.size,0,0,true,none⟩ rfl ?_;refine⟨a.tmps,fn',?_,T0.ext (ym _ _ _) (Yyt _),okB.ext (ym _ _ _) (Yyt _) hbd⟩;rw[zo,ym φ0 h0.n _ bd hbd.1];exact heap_alloc_new w0' _
    have hE1:Ext h.n.toNat φ (upd φ0 h0.n ⟨w0'.heap.size,0,0,true,none⟩):=hE0.trans (ym _ _ _) hn0;have hn1:(h0.new (.loop .ready none fn nt t ps assign body bd)).n.toNat=h0.n.toNat+1:=yx _ _;have og:=zn T0 hg;rw[hgv]at og;have hwcaps:∀x∈([Zb.s (.one (.yld h0.n))]++caps.map fun p=>Zb.s (.one (.ptr p.1 p.2))),wfA (upd φ0 h0.n ⟨w0'.heap.size,0,0,true,none⟩) (h0.new (.loop .ready none fn nt t ps assign body bd)).n.toNat x:=by
     intro x hx;rw[hn1];rcases Yys.1 hx with hx|hx
     ·simp only[YzB]at hx;subst hx;exact⟨YyC _,by rw[zo]⟩
     ·obtain⟨p,hp,rfl⟩:=List.mem_map.1 hx;exact okB.ext (ym _ _ _) (Yyt _) (og.2 p hp)
    obtain⟨hcf,hcl⟩:=(C w0 S _ _ _ _ xv h3 H1 hwcaps).1 gf hcall;have hargs:(([Zb.s (.one (.yld h0.n))]++caps.map fun p=>Zb.s (.one (.ptr p.1 p.2))).map (zq (upd φ0 h0.n ⟨w0'.heap.size,0,0,true,none⟩))).toArray=#[Value.func (.yield w0'.heap.size) #[] #[]]++(caps.map fun p=>Value.pointer (some (adr φ0 p.1 p.2))).toArray:=by
     rw[YzH,←List.append_toArray]
     congr 1
     ·simp[zq,zI,zj,zo]
     ·simp only[YyD,Function.comp_def]
      congr 1
      refine Yyh fun p hp=>?_;have:=ym φ0 h0.n ⟨w0'.heap.size,0,0,true,none⟩ p.1 (og.2 p hp).1;simp[zq,zI,zj,adr,Addr.add,this]
    rw[hargs]at hcl;have hgval:a.eval g=.func (.func gf) #[] (caps.map fun p=>Value.pointer (some (adr φ0 p.1 p.2))).toArray:=og.1;refine⟨w0'.heap.size,mark,_,{ target:=.fn (.func gf) (caps.map fun p=>Value.pointer (some (adr φ0 p.1 p.2))).toArray,args:=#[Value.func (.yield w0'.heap.size) #[] #[]] },w0'.alloc (.loop { state:=.ready,pending:=none,fn:=fn',tmps:=a.tmps,params:=ps,assign:=assign,body:=body,defers:=(φ0 bd).blk }),gf,
     #[Value.func (.yield w0'.heap.size) #[] #[]]++(caps.map fun p=>Value.pointer (some (adr φ0 p.1 p.2))).toArray,w0'.alloc (.loop { state:=.ready,pending:=none,fn:=fn',tmps:=a.tmps,params:=ps,assign:=assign,body:=body,defers:=(φ0 bd).blk }),hrunE,?_,fun _ _=>trivial,?_,fun hh=>by simp[Fence.wide]at hh,zjZ hcl |>.mono ?_⟩
    ·simp only[resolve,hgval,Deferred.ofValue,Sem.run_pure];simp[Act.eval]
    ·simp only[invoke,hcf]
    ·rintro e9 w9 ⟨φ3,rfl,he3,H3,_,hle3⟩
     rw[hn1]at he3 hle3;obtain⟨arr,f8,g1,g2,g3⟩:=H3.obj h0.n _ hl3;have eb:(φ3 h0.n).blk=w0'.heap.size:=by
      have:=he3 h0.n (YyC _);rw[this,zo]
     rw[eb]at g1;have hend:=run_endLoop (P:=P) g1 hnb;have hlt:w0'.heap.size<w9.heap.size:=(Lz7.1 g1).1;have H4:Zd w0 S φ3 (h3.put h0.n (.loop .exhausted pend lf ln lt lps la lb ld)) (w9.putObj w0'.heap.size (.loop { state:=.exhausted,pending:=pend.map za5,fn:=f8,tmps:=arr,params:=lps,assign:=la,body:=lb,defers:=(φ3 ld).blk })):=by
      refine H3.put hl3 trivial (fun k hk=>?_) (by simp) rfl rfl rfl ⟨arr,f8,?_,g2,g3⟩
      ·rw[eb]at hk;exact World.putObj_heap_other hk
      ·rw[eb];exact World.putObj_heap_same hlt
     have hE3:Ext h.n.toNat φ φ3:=hE1.trans he3 (by omega);have hA:After w0 S φ nt h s2 { a with defers:=mark++a.defers } (w9.putObj w0'.heap.size (.loop { state:=.exhausted,pending:=pend.map za5,fn:=f8,tmps:=arr,params:=lps,assign:=la,body:=lb,defers:=(φ3 ld).blk })):=by
      subst hs2;refine⟨φ3,hE3,⟨H4,?_,?_,?_⟩,?_⟩
      ·exact T0.ext (fun b hb=>(he3 b (by omega)).trans (ym _ _ _ b hb)) (by show h0.n.toNat≤h3.n.toNat;omega)
      ·show mark++a.defers=marks φ3 ds;rw[←hmark.1];refine (zcg (n:=h0.n.toNat) (fun b hb=>?_) hmark.2).symm;exact(he3 b (by omega)).trans (ym _ _ _ b hb)
      ·intro b hb;have:=okB.ext (ym φ0 h0.n ⟨w0'.heap.size,0,0,true,none⟩) (Yyt _) (hmark.2 b hb);exact okB.ext he3 (by show h0.n.toNat+1≤h3.n.toNat;omega) this
      ·show h.n.toNat≤h3.n.toNat;omega
     refine⟨_,_,hend,?_⟩;subst he;cases pend with
     |none=>exact hQ _ _ hA
     |some e1=>exact zlh e1 (hQ _ _ hA)
   ·cases hc
end
end Go.CE
end
section
namespace Go.CE
open Go.RowKit
def yj(f:zxq):Prop:=∀call t h v h2,f call t h=some (v,h2)→h2=h
theorem zB:yj (yi none):=fun _ _ _ _ _ e=>by cases e
theorem zx{f:zxq}(hf:yj f):yj (yi (some f)):=hf
theorem zkc{α:Type}{a:Option α}{g:α→Option zxq}(hg:∀x,yj (yi (g x))):yj (yi (a.bind g)):=by
 cases a with
 |none=>exact zB
 |some x=>exact hg x
theorem zf{α:Type}{a:Option α}{g:α→Option zxq}(hg:∀x,yj (yi (g x))):yj (yi (a >>= g)):=zkc hg
theorem zfn{α:Type}{a:Option α}{g:α→zxq}(hg:∀x,yj (g x)):yj (yi (a.map g)):=by
 cases a with
 |none=>exact zB
 |some x=>exact hg x
theorem xg{b:Bool}{x y:Option zxq}(hx:yj (yi x))(hy:yj (yi y)):yj (yi (bif b then x else y)):=by
 cases b
 ·exact hy
 ·exact hx
theorem z7{h h2:Za}{c:Option Zc}{v:Zb}(e:zw8 h c=some (v,h2)):h2=h:=by cases c<;>cases e;rfl
theorem xb{h h2:Za}{c:Option (List Zc)}{v:Zb}(e:zxr h c=some (v,h2)):h2=h:=by cases c<;>cases e;rfl
theorem ye{h h2:Za}{n:Option Nat}{cs:List Zc}{off:Nat}{v:Zb}(e:part n cs off h=some (v,h2)):h2=h:=by
 cases n
 ·exact z7 e
 ·exact xb e
theorem yR{h h2:Za}{b:Bool}{x y:Res}{v:Zb}(hx:x=some (v,h2)→h2=h)(hy:y=some (v,h2)→h2=h)(e:(bif b then x else y)=some (v,h2)):h2=h:=by
 cases b
 ·exact hy e
 ·exact hx e
theorem zfu{st:Nat}{lo hi mx:Option Opd}{t:Tr Zb}{h h2:Za}{b:BN}{off len cap:Nat}{v:Zb}(e:xu st lo hi mx t h b off len cap=some (v,h2)):h2=h:=by
 unfold xu at e
 (repeat' split at e)<;>first|(cases e;done)|exact yR (fun e=>by cases e;rfl) (fun e=>by cases e) e
theorem zlB{st:Nat}{lo hi mx:Option Opd}{t:Tr Zb}{h h2:Za}{b:BN}{off len cap:Nat}{v:Zb}(e:xj st lo hi mx t h b off len cap=some (v,h2)):h2=h:=by
 unfold xj at e
 (repeat' split at e)<;>first|(cases e;done)|(cases e;rfl)|exact yR (fun e=>by cases e;rfl) (fun e=>by cases e) e
theorem zki{lo hi mx:Option Opd}{t:Tr Zb}{h h2:Za}{v:Zb}(e:xL lo hi mx t h=some (v,h2)):h2=h:=by
 unfold xL at e;split at e<;>cases e;rfl
theorem zd6(x:Opd):yj (zxJ x):=by
 intro call t h v h2 e;unfold zxJ at e
 (repeat' split at e)<;>first|(cases e;done)|(cases e;rfl)|exact z7 e|exact xb e|exact ye e|exact yR (fun e=>by first|(cases e;rfl)|exact z7 e|exact ye e) (fun e=>by cases e) e
theorem zj4(x y z:Opd):yj (jp x y z):=by
 intro call t h v h2 e;unfold jp at e
 (repeat' split at e)<;>first|(cases e;done)|(cases e;rfl)|exact z7 e|exact xb e|exact ye e|exact yR (fun e=>by first|(cases e;rfl)|exact z7 e|exact ye e) (fun e=>by cases e) e
theorem zbI(zs ps):yj (vI zs ps):=by intro call t h v h2 e;exact xb e
theorem zj6(n x):yj (js n x):=by
 intro call t h v h2 e;unfold js loadAt at e
 (repeat' split at e)<;>first|(cases e;done)|exact ye e|(unfold zfJ at e;split at e;exact z7 e;exact xb e)|exact yR z7 (fun e=>by cases e) e
theorem zg4(x):yj (vC x):=by
 intro call t h v h2 e;unfold vC at e
 (repeat' split at e)<;>first|(cases e;done)|(cases e;rfl)|exact z7 e|exact xb e|exact ye e|exact yR (fun e=>by first|(cases e;rfl)|exact z7 e|exact ye e) (fun e=>by cases e) e
theorem zlw(g x y):yj (zbi g x y):=by
 intro call t h v h2 e;unfold zbi at e
 (repeat' split at e)<;>first|(cases e;done)|(cases e;rfl)|exact z7 e|exact xb e|exact ye e|exact yR (fun e=>by first|(cases e;rfl)|exact z7 e|exact ye e) (fun e=>by cases e) e
theorem zbG(g x y):yj (wA g x y):=by
 intro call t h v h2 e;unfold wA at e
 (repeat' split at e)<;>first|(cases e;done)|(cases e;rfl)|exact z7 e|exact xb e|exact ye e|exact yR (fun e=>by first|(cases e;rfl)|exact z7 e|exact ye e) (fun e=>by cases e) e
theorem zlr(g x y):yj (zb1 g x y):=by
 intro call t h v h2 e;unfold zb1 at e
 (repeat' split at e)<;>first|(cases e;done)|(cases e;rfl)|exact z7 e|exact xb e|exact ye e|exact yR (fun e=>by first|(cases e;rfl)|exact z7 e|exact ye e) (fun e=>by cases e) e
theorem zit(g n x y):yj (zxK g n x y):=by
 intro call t h v h2 e;unfold zxK at e
 (repeat' split at e)<;>first|(cases e;done)|(cases e;rfl)|exact z7 e|exact xb e|exact ye e|exact yR (fun e=>by first|(cases e;rfl)|exact z7 e|exact ye e) (fun e=>by cases e) e
theorem zc4(n x y):yj (um n x y):=by
 intro call t h v h2 e;unfold um at e
 (repeat' split at e)<;>first|(cases e;done)|(cases e;rfl)|exact z7 e|exact xb e|exact ye e|exact yR (fun e=>by first|(cases e;rfl)|exact z7 e|exact ye e) (fun e=>by cases e) e
theorem zc5(n x y):yj (jq n x y):=by
 intro call t h v h2 e;unfold jq at e
 (repeat' split at e)<;>first|(cases e;done)|(cases e;rfl)|exact z7 e|exact xb e|exact ye e|exact yR (fun e=>by first|(cases e;rfl)|exact z7 e|exact ye e) (fun e=>by cases e) e
theorem zlt(x):yj (zb2 x):=by
 intro call t h v h2 e;unfold zb2 at e
 (repeat' split at e)<;>first|(cases e;done)|(cases e;rfl)|exact z7 e|exact xb e|exact ye e|exact yR (fun e=>by first|(cases e;rfl)|exact z7 e|exact ye e) (fun e=>by cases e) e
theorem zlu(x):yj (zb3 x):=by
 intro call t h v h2 e;unfold zb3 at e
 (repeat' split at e)<;>first|(cases e;done)|(cases e;rfl)|exact z7 e|exact xb e|exact ye e|exact yR (fun e=>by first|(cases e;rfl)|exact z7 e|exact ye e) (fun e=>by cases e) e
theorem zkb(k x):yj (jw k x):=by
 intro call t h v h2 e;unfold jw at e
 (repeat' split at e)<;>first|(cases e;done)|(cases e;rfl)|exact z7 e|exact xb e|exact ye e|exact yR (fun e=>by first|(cases e;rfl)|exact z7 e|exact ye e) (fun e=>by cases e) e
theorem ztI{h h2:Za}{c:Option (List Zc)}{v:Zb}(e:zxc h c=some (v,h2)):h2=h:=by
 unfold zxc at e
 (repeat' split at e)<;>first|(cases e;done)|(cases e;rfl)
theorem zly(x):yj (qI x):=by
 intro call t h v h2 e;unfold qI at e
 (repeat' split at e)<;>first|(cases e;done)|(cases e;rfl)|exact ztI e
theorem zls(x):yj (zew x):=by
 intro call t h v h2 e;unfold zew at e
 (repeat' split at e)<;>first|(cases e;done)|(cases e;rfl)|exact yR (fun e=>by cases e;rfl) (fun e=>by cases e) e
theorem zlq(u n x):yj (zev u n x):=by
 intro call t h v h2 e;unfold zev at e;split at e
 ·cases e;rfl
 ·refine yR (fun e=>?_) (fun e=>by cases e) e;split at e
  ·exact yR (fun e=>by cases e;rfl) (fun e=>by cases e) e
  ·cases e
 ·cases e
theorem zbH(n x y):yj (vB n x y):=by
 intro call t h v h2 e;unfold vB at e
 (repeat' split at e)<;>first|(cases e;done)|(cases e;rfl)
theorem zfm(l st x lo hi mx):yj (w6 l st x lo hi mx):=by
 intro call t h v h2 e;unfold w6 at e;split at e
 ·exact zfu e
 ·cases e
theorem zj5(f x):yj (jr f x):=by
 intro call t h v h2 e;unfold jr at e
 (repeat' split at e)<;>first|(cases e;done)|(cases e;rfl)|exact z7 e|exact xb e|exact ye e|exact yR (fun e=>by first|(cases e;rfl)|exact z7 e|exact ye e) (fun e=>by cases e) e
theorem zg3(st x lo hi mx):yj (vA st x lo hi mx):=by
 intro call t h v h2 e;unfold vA at e;split at e
 ·exact zki e
 ·exact yR zfu zlB e
 ·cases e
theorem zfl(x lo hi):yj (xM x lo hi):=by
 intro call t h v h2 e;unfold xM at e
 (repeat' split at e)<;>first|(cases e;done)|(cases e;rfl)|exact z7 e|exact xb e|exact ye e|exact yR (fun e=>by first|(cases e;rfl)|exact z7 e|exact ye e) (fun e=>by cases e) e
theorem zka(x o):yj (jv x o):=by
 intro call t h v h2 e;unfold jv at e
 (repeat' split at e)<;>first|(cases e;done)|(cases e;rfl)|exact z7 e|exact xb e|exact ye e|exact yR (fun e=>by first|(cases e;rfl)|exact z7 e|exact ye e) (fun e=>by cases e) e
theorem zg8(x o n):yj (vH x o n):=by
 intro call t h v h2 e;unfold vH at e
 (repeat' split at e)<;>first|(cases e;done)|(cases e;rfl)|exact z7 e|exact xb e|exact ye e|exact yR (fun e=>by first|(cases e;rfl)|exact z7 e|exact ye e) (fun e=>by cases e) e
theorem zlv(st x i):yj (zb6 st x i):=by
 intro call t h v h2 e;unfold zb6 at e
 (repeat' split at e)<;>first|(cases e;done)|(cases e;rfl)|exact z7 e|exact xb e|exact ye e|exact yR (fun e=>by first|(cases e;rfl)|exact z7 e|exact ye e) (fun e=>by cases e) e
theorem zg6(l st x i):yj (vF l st x i):=by
 intro call t h v h2 e;unfold vF at e
 (repeat' split at e)<;>first|(cases e;done)|(cases e;rfl)|exact z7 e|exact xb e|exact ye e|exact yR (fun e=>by first|(cases e;rfl)|exact z7 e|exact ye e) (fun e=>by cases e) e
theorem zg7(l st n x i):yj (vG l st n x i):=by
 intro call t h v h2 e;unfold vG at e
 (repeat' split at e)<;>first|(cases e;done)|(cases e;rfl)|exact z7 e|exact xb e|exact ye e|exact yR (fun e=>by first|(cases e;rfl)|exact z7 e|exact ye e) (fun e=>by cases e) e
theorem zg5(x i):yj (vE x i):=by
 intro call t h v h2 e;unfold vE at e
 (repeat' split at e)<;>first|(cases e;done)|(cases e;rfl)|exact z7 e|exact xb e|exact ye e|exact yR (fun e=>by first|(cases e;rfl)|exact z7 e|exact ye e) (fun e=>by cases e) e
theorem zfo(q z ok m k):yj (wH q z ok m k):=by
 intro call t h v h2 e;unfold wH at e;split at e
 ·refine yR (fun e=>by cases e) (fun e=>?_) e;split at e
  ·cases e;rfl
  ·cases e
 ·cases e
theorem zd7(x i):yj (xE x i):=by
 intro call t h v h2 e;unfold xE at e
 (repeat' split at e)<;>first|(cases e;done)|(cases e;rfl)|exact z7 e|exact xb e|exact ye e|exact yR (fun e=>by first|(cases e;rfl)|exact z7 e|exact ye e) (fun e=>by cases e) e
theorem zj7(x):yj (jt x):=by
 intro call t h v h2 e;unfold jt at e
 (repeat' split at e)<;>first|(cases e;done)|(cases e;rfl)|exact z7 e|exact xb e|exact ye e|exact yR (fun e=>by first|(cases e;rfl)|exact z7 e|exact ye e) (fun e=>by cases e) e
theorem zj9(x):yj (ju x):=by
 intro call t h v h2 e;unfold ju at e
 (repeat' split at e)<;>first|(cases e;done)|(cases e;rfl)|exact z7 e|exact xb e|exact ye e|exact yR (fun e=>by first|(cases e;rfl)|exact z7 e|exact ye e) (fun e=>by cases e) e
theorem zj8(x):yj (kK x):=by
 intro call t h v h2 e;unfold kK at e
 (repeat' split at e)<;>first|(cases e;done)|(cases e;rfl)|exact z7 e|exact xb e|exact ye e|exact yR (fun e=>by first|(cases e;rfl)|exact z7 e|exact ye e) (fun e=>by cases e) e
theorem zaV(b x xs):yj (xe b x xs):=by
 intro call t h v h2 e;unfold xe at e
 (repeat' split at e)<;>first|(cases e;done)|(cases e;rfl)|exact z7 e|exact xb e|exact ye e|exact yR (fun e=>by first|(cases e;rfl)|exact z7 e|exact ye e) (fun e=>by cases e) e
theorem zlx(P:Program)(o:Op)(hq:yF P o=true):yj (cOp P o):=by
 cases o with
 |move x=>exact zfn zd6
 |assign x=>exact zfn zd6
 |pick c x y=>exact zf fun _=>zf fun _=>zf fun _=>zx (zj4 _ _ _)
 |build t parts=>
  unfold cOp;simp only;split
  ·exact xg (zf fun _=>zx (zbI _ _)) zB
  ·split
   ·exact zf fun _=>zx (zbI _ _)
   ·exact zB
  ·exact zB
 |load t x=>exact zf fun _=>zf fun _=>zx (zj6 _ _)
 |nilCheck x=>exact zf fun _=>zx (zg4 _)
 |binOp op t x y u=>
  unfold cOp;simp only;split
  ·split
   ·exact zf fun _=>zf fun _=>zx (zbG _ _ _)
   ·exact zf fun _=>zf fun _=>zx (zbG _ _ _)
   ·exact zf fun _=>zf fun _=>zx (zlw _ _ _)
  ·exact zf fun _=>zf fun _=>zx (zlr _ _ _)
  ·split
   ·exact zf fun _=>zf fun _=>zx (zc4 _ _ _)
   ·exact zf fun _=>zf fun _=>zx (zc4 _ _ _)
   ·exact zB
  ·refine xg ?_ zB;split
   ·exact zf fun _=>zf fun _=>zx (zbH _ _ _)
   ·exact zf fun _=>zf fun _=>zx (zbH _ _ _)
   ·exact zB
  ·split
   ·exact zf fun _=>zf fun _=>zx (zc5 _ _ _)
   ·exact zf fun _=>zf fun _=>zx (zc5 _ _ _)
   ·exact zB
  ·refine xg zB ?_;split
   ·exact zf fun _=>zf fun _=>zf fun _=>zx (zit _ _ _ _)
   ·exact zf fun _=>zf fun _=>zf fun _=>zx (zit _ _ _ _)
   ·exact zB
  ·exact zB
 |unOp u t x=>
  cases u with
  |not=>exact zf fun _=>zx (zlt _)
  |neg=>exact zf fun _=>zx (zlu _)
  |_=>exact zB
 |convert a b x=>
  unfold cOp;simp only;split
  ·exact zf fun _=>zx (zkb _ _)
  ·rename_i h1 h2;simp only[yF,zng,zeJ,h1,h2]at hq;cases hq
  ·exact xg (zf fun _=>zx (zly _)) zB
  ·exact xg (zf fun _=>zx (zls _)) zB
  ·exact xg (zf fun _=>zx (zlq _ _ _)) zB
  ·exact zB
 |makeFunc f first captured=>
  cases f with
  |func f=>exact xg (zf fun _=>zx (zj5 _ _)) zB
  |_=>exact zB
 |slice t x lo hi mx=>
  unfold cOp;simp only;split
  ·split
   ·exact xg zB (zf fun _=>zf fun _=>zf fun _=>zf fun _=>zx (zg3 _ _ _ _ _))
   ·exact zB
  ·split
   ·exact xg zB (zf fun _=>zf fun _=>zf fun _=>zf fun _=>zx (zfm _ _ _ _ _ _))
   ·exact zB
  ·exact xg zB (zf fun _=>zf fun _=>zf fun _=>zx (zfl _ _ _))
  ·exact zB
 |fieldAddr t x f=>
  unfold cOp;simp only;split
  ·split
   ·split
    ·exact xg zB (zf fun _=>zx (zka _ _))
    ·exact zB
   ·exact zB
  ·exact zB
 |field t x f=>
  unfold cOp;simp only;split
  ·split
   ·exact zf fun _=>zf fun _=>zx (zg8 _ _ _)
   ·exact zB
  ·exact zB
 |indexAddr t x i=>
  unfold cOp;simp only;split
  ·split
   ·exact zf fun _=>zf fun _=>zx (zlv _ _ _)
   ·exact zB
  ·split
   ·exact zf fun _=>zf fun _=>zx (zg6 _ _ _ _)
   ·exact zB
  ·exact zB
 |index t x i=>
  unfold cOp;simp only;split
  ·split
   ·exact zf fun _=>zf fun _=>zf fun _=>zx (zg7 _ _ _ _ _)
   ·exact zB
  ·exact zf fun _=>zf fun _=>zx (zg5 _ _)
  ·exact zB
 |lookup t m k ok=>
  unfold cOp;simp only;split
  ·exact zf fun _=>zf fun _=>zf fun _=>zf fun _=>zx (zfo _ _ _ _ _)
  ·exact zB
 |extract x i=>exact zf fun _=>zx (zd7 _ _)
 |call c=>
  obtain⟨callee,args,ts⟩:=c;cases callee with
  |builtin b=>
   cases b with
   |len=>
    unfold cOp;simp only;split
    ·split
     ·exact zf fun _=>zx (zj7 _)
     ·exact zf fun _=>zx (zj9 _)
     ·exact zf fun _=>zx (zj8 _)
     ·exact zx (zd6 _)
     ·exact zB
    ·exact zB
   |max=>
    unfold cOp;simp only;split
    ·exact zx (zaV _ _ _)
    ·exact zB
   |min=>
    unfold cOp;simp only;split
    ·exact zx (zaV _ _ _)
    ·exact zB
   |_=>cases hq
  |_=>cases hq
 |_=>cases hq
end Go.CE
end
section
namespace Go.CE
open Go.RowKit
theorem zwY{a b:Bool}(h:(a&&b)=true):a=true∧b=true:=by simpa using h
theorem jQ:∀{a b:BN},zxL a b=true→a=b
 | .z,.z,_=>rfl
 | .o a,.o b,h=>by rw[jQ (a:=a) (b:=b) h]
 | .d a,.d b,h=>by rw[jQ (a:=a) (b:=b) h]
 | .z,.o _,h=>by cases h
 | .z,.d _,h=>by cases h
 | .o _,.z,h=>by cases h
 | .o _,.d _,h=>by cases h
 | .d _,.z,h=>by cases h
 | .d _,.o _,h=>by cases h
theorem znF{a b:Bool}(h:eqB a b=true):a=b:=by cases a<;>cases b<;>first|rfl|cases h
theorem znB:∀{a b:List (BN×Nat)},zy9 a b=true→a=b
 | [],[],_=>rfl
 |(b,o)::l,(b',o')::l',h=>by
  obtain⟨h1,h2⟩:=zwY h;obtain⟨h3,h4⟩:=zwY h1;rw[jQ h3,beq_true h4,znB h2]
 | [],_::_,h=>by cases h
 |_::_,[],h=>by cases h
theorem zqM:∀{a b:List UInt8},eqU a b=true→a=b
 | [],[],_=>rfl
 |a::l,b::l',h=>by
  obtain⟨h1,h2⟩:=zwY h;rw[UInt8.toNat_inj.1 (beq_true h1),zqM h2]
 | [],_::_,h=>by cases h
 |_::_,[],h=>by cases h
theorem zpU{a b:ByteArray}(h:eqU a.data.toList b.data.toList=true):a=b:=by
 have:=zqM h;cases a;cases b
 congr 1
 exact Array.ext' this
theorem zB7{a b:Int}(h:eqI a b=true):a=b:=by rw[jO]at h;simpa using h
theorem zny{a b:Zc}(h:eqV a b=true):a=b:=by
 cases a<;>cases b<;>first
  |rfl
  |(cases h;done)
  |skip
 ·exact congrArg _ (znF h)
 ·obtain⟨h1,h2⟩:=zwY h;rw[zhO h1,zB7 h2]
 ·exact congrArg _ (zpU h)
 ·obtain⟨h1,h2⟩:=zwY h;rw[jQ h1,beq_true h2]
 ·obtain⟨h1,h2⟩:=zwY h;obtain⟨h1,h3⟩:=zwY h1;obtain⟨h1,h4⟩:=zwY h1;obtain⟨h1,h5⟩:=zwY h1;rw[jQ h1,beq_true h5,beq_true h4,beq_true h3,znF h2]
 ·exact congrArg _ (jQ h)
 ·obtain⟨h1,h2⟩:=zwY h;rw[beq_true h1,znB h2]
 ·exact congrArg _ (jQ h)
 ·obtain⟨h1,h2⟩:=zwY h;rw[beq_true h1,beq_true h2]
theorem zhM:∀{a b:List Zc},zyM a b=true→a=b
 | [],[],_=>rfl
 |a::l,b::l',h=>by
  obtain⟨h1,h2⟩:=zwY h;rw[zny h1,zhM h2]
 | [],_::_,h=>by cases h
 |_::_,[],h=>by cases h
theorem znz{a b:SVal}(h:zy7 a b=true):a=b:=by
 cases a<;>cases b<;>first
  |(cases h;done)
  |exact congrArg _ (zny h)
  |exact congrArg _ (zhM h)
theorem znA:∀{a b:List SVal},zy8 a b=true→a=b
 | [],[],_=>rfl
 |a::l,b::l',h=>by
  obtain⟨h1,h2⟩:=zwY h;rw[znz h1,znA h2]
 | [],_::_,h=>by cases h
 |_::_,[],h=>by cases h
theorem zjy{a b:Zb}(h:eqA a b=true):a=b:=by
 cases a<;>cases b<;>first
  |(cases h;done)
  |exact congrArg _ (znz h)
  |exact congrArg _ (znA h)
noncomputable def frL(L:Nat→Bool):Nat→List (Option BN×Zb)→Tr Zb→Tr Zb
 |_,[],t=>t
 |i,(d,v)::r,t=>frL L (i+1) r (bif L i then zxg t v d else t)
open Classical in
noncomputable def lw(L:Nat→Bool)(s:BN):Nat→List (Option BN×Zb)→Option Zb
 |_,[]=>none
 |i,(d,v)::r=>(lw L s (i+1) r).or (if L i=true∧d=some s then some v else none)
theorem zd9(t:Tr Zb)(v:Zb)(d:Option BN)(s:BN)[Decidable (d=some s)]:(zxg t v d).get s=if d=some s then some v else t.get s:=by
 cases d with
 |none=>simp[zxg]
 |some d=>
  by_cases h:d=s
  ·subst h;simp[zxg,zz]
  ·rw[Yzb (fun hh=>h (Option.some.inj hh))];exact zp _ _ _ _ (fun hh=>h hh.symm)
section
variable {L L':Nat→Bool} {s:BN}
open Classical in
theorem uQ:∀(r:List (Option BN×Zb)) (i:Nat) (t:Tr Zb),(frL L i r t).get s=(lw L s i r).or (t.get s)
 | [],i,t=>rfl
 |(d,v)::r,i,t=>by
  unfold frL lw;rw[uQ r (i+1),Option.or_assoc]
  congr 1
  cases hL:L i with
  |false=>simp
  |true=>
   simp only[Yza,true_and];rw[zd9];split<;>simp
theorem qM:∀(r:List (Option BN×Zb)) (i:Nat),(∀j d v,r[j]? = some (d,v)→d=some s→L (i+j)=L' (i+j))→lw L s i r=lw L' s i r
 | [],i,_=>rfl
 |(d,v)::r,i,h=>by
  unfold lw;rw[qM r (i+1) fun j d v hj hd=>by have:=h (j+1) d v (by simpa using hj) hd;rwa [show i+(j+1)=i+1+j by omega]at this]
  congr 1
  by_cases hd:d=some s
  ·have:=h 0 d v (by simp) hd;simp only[Yzw]at this;rw[this]
  ·simp[hd]
theorem zmV:∀(r:List (Option BN×Zb)) (i:Nat),(∀j d v,r[j]? = some (d,v)→d=some s→L (i+j)=false)→lw L s i r=none
 | [],i,_=>rfl
 |(d,v)::r,i,h=>by
  unfold lw;rw[zmV r (i+1) fun j d v hj hd=>by have:=h (j+1) d v (by simpa using hj) hd;rwa [show i+(j+1)=i+1+j by omega]at this];by_cases hd:d=some s
  ·have:=h 0 d v (by simp) hd;simp only[Yzw]at this;simp[this]
  ·simp[hd]
theorem zhw:∀(r:List (Option BN×Zb)) (i k:Nat) (v:Zb),r[k]? = some (some s,v)→L (i+k)=true→(∀j d u,k<j→r[j]? = some (d,u)→d=some s→L (i+j)=false)→lw L s i r=some v
 | [],i,k,v,hk,_,_=>by simp at hk
 |(d,u)::r,i,0,v,hk,hL,h=>by
  simp only[Yzg,Option.some.injEq,Prod.mk.injEq]at hk;obtain⟨rfl,rfl⟩:=hk;unfold lw;rw[zmV r (i+1) fun j d v hj hd=>by have:=h (j+1) d v (by omega) (by simpa using hj) hd;rwa [show i+(j+1)=i+1+j by omega]at this];simp only[Yzw]at hL;simp[hL]
 |(d,u)::r,i,k+1,v,hk,hL,h=>by
  unfold lw;rw[zhw r (i+1) k v (by simpa using hk) (by rwa [show i+1+k=i+(k+1) by omega]) fun j d v hj hjr hd=>by
   have:=h (j+1) d v (by omega) (by simpa using hjr) hd;rwa [show i+(j+1)=i+1+j by omega]at this]
  rfl
theorem zjo(d:Option BN)(v:Zb)(r:List (Option BN×Zb))(i:Nat)(t:Tr Zb):frL L i ((d,v)::r) t=frL L (i+1) r (bif L i then zxg t v d else t):=rfl
theorem znQ(e:Bool)(es:List Bool)(i:Nat):ce L i (e::es)=bif L i&&e then ce L (i+1) es+1 else ce L (i+1) es:=rfl
theorem zct:∀(r:List (Option BN×Zb)) (i:Nat) (t:Tr Zb),frL L (i+1) r t=frL (fun k=>L (k+1)) i r t
 | [],i,t=>rfl
 |(d,v)::r,i,t=>by unfold frL;exact zct r (i+1) _
theorem qV:∀(r:List (Option BN×Zb)) (i:Nat) (t:Tr Zb),(∀j,j<r.length→L (i+j)=L' (i+j))→frL L i r t=frL L' i r t
 | [],i,t,_=>rfl
 |(d,v)::r,i,t,h=>by
  unfold frL;have h0:=h 0 (by simp);simp only[Yzw]at h0;rw[h0];exact qV r (i+1) _ fun j hj=>by have:=h (j+1) (by simpa using hj);rwa [show i+(j+1)=i+1+j by omega]at this
theorem ze9:∀(es:List Bool) (i:Nat),ce L (i+1) es=ce (fun k=>L (k+1)) i es
 | [],i=>rfl
 |e::es,i=>by
  unfold ce;rw[YyB,YyB,ze9 es (i+1)]
theorem wL:∀(es:List Bool) (i:Nat),(∀j,es[j]? = some true→L (i+j)=L' (i+j))→ce L i es=ce L' i es
 | [],i,_=>rfl
 |e::es,i,h=>by
  unfold ce;have ih:=wL es (i+1) fun j hj=>by have:=h (j+1) (by simpa using hj);rwa [show i+(j+1)=i+1+j by omega]at this
  rw[YyB,ih];cases e with
  |false=>simp
  |true=>
   have h0:=h 0 (by simp);simp only[Yzw]at h0;rw[h0]
theorem wj:∀(es:List Bool) (i:Nat),(∀j,es[j]? = some true→L (i+j)=true→L' (i+j)=true)→ce L i es≤ce L' i es
 | [],i,_=>LzB _
 |e::es,i,h=>by
  unfold ce;have ih:=wj es (i+1) fun j hj hL=>by have:=h (j+1) (by simpa using hj) (by rwa [show i+(j+1)=i+1+j by omega]);rwa [show i+(j+1)=i+1+j by omega]at this
  simp only[YyB];cases e with
  |false=>simpa using ih
  |true=>
   have h0:=h 0 (by simp);simp only[Yzw]at h0;cases hL:L i with
   |false=>cases L' i<;>simp<;>omega
   |true=>rw[h0 hL];simp;omega
theorem zgq:∀(es:List Bool) (i k:Nat),es[k]? = some true→L (i+k)=false→L' (i+k)=true→(∀j,j≠i+k→L' j=L j)→ce L' i es=ce L i es+1
 | [],i,k,hk,_,_,_=>by simp at hk
 |e::es,i,0,hk,h1,h2,h3=>by
  simp only[Yzg,Option.some.injEq]at hk;subst hk;simp only[Yzw]at h1 h2 h3;unfold ce;rw[h1,h2];simp only[YyB,YyH,Yza,Yzc];rw[wL (L:=L') (L':=L) es (i+1) fun j _=>h3 _ (by omega)]
 |e::es,i,k+1,hk,h1,h2,h3=>by
  unfold ce;have ih:=zgq es (i+1) k (by simpa using hk) (by rwa [show i+1+k=i+(k+1) by omega]) (by rwa [show i+1+k=i+(k+1) by omega]) fun j hj=>h3 j (by omega);simp only[YyB];rw[ih,h3 i (by omega)];cases (L i&&e)<;>simp
end
theorem vu(t:Tr Zb)(s:BN)[DecidableEq BN]:∀(l:List BN),(uG t l).get s=if s∈l then t.get s else none
 | []=>by cases s<;>rfl
 |x::l=>by
  unfold uG;split
  ·rename_i v hv;by_cases hx:s=x
   ·subst hx;rw[zz,hv];simp
   ·rw[zp _ _ _ _ hx,vu t s l];simp[hx]
  ·rename_i hv;rw[vu t s l];by_cases hx:s=x
   ·subst hx;simp[hv]
   ·simp[hx]
def dv(x:Zk×Tr Zb×Zb):Option BN×Zb:=(x.1.rop.dst,x.2.2)
theorem zeV(call:zg):∀(ds:List Zk) (t:Tr Zb) (h:Za) (l:List (Zk×Tr Zb×Zb)) (t2:Tr Zb) (hs:List Za),evD call ds t h=some (l,t2,hs)→
  l.map (·.1)=ds∧hs[0]? = some h∧hs.length=ce (fun _=>true) 0 (ds.map (·.eff))+1∧t2=frL (fun _=>true) 0 (l.map dv) t∧
  ∀j d tr v,l[j]? = some (d,tr,v)→tr=uG (frL (fun k=>decide (k<j)) 0 (l.map dv) t) d.looks∧
   ∃hk h',hs[ce (fun k=>decide (k<j)) 0 (ds.map (·.eff))]? = some hk∧xC call d.rop tr hk=some (v,h')∧(d.eff=true→hs[ce (fun k=>decide (k<j)) 0 (ds.map (·.eff))+1]? = some h')
 | [],t,h,l,t2,hs,e=>by
  cases e;exact⟨rfl,rfl,rfl,rfl,fun j d tr v hj=>by simp at hj⟩
 |d::ds,t,h,l,t2,hs,e=>by
  unfold evD at e;split at e
  ·rename_i v0 h0 hv0;cases hr:evD call ds (zxg t v0 d.rop.dst) (bif d.eff then h0 else h) with
   |none=>rw[hr]at e;cases e
   |some p=>
    obtain⟨l',t',hs'⟩:=p;rw[hr]at e;simp only[zuS,Option.some.injEq,Prod.mk.injEq]at e;obtain⟨rfl,rfl,rfl⟩:=e;obtain⟨g1,g2,g3,g4,g5⟩:=zeV call ds _ _ l' _ hs' hr;have hsh:∀(L:Nat→Bool),ce L 0 ((d::ds).map (·.eff))=(bif L 0&&d.eff then 1 else 0)+ce (fun k=>L (k+1)) 0 (ds.map (·.eff)):=by
     intro L;simp only[Yzp];rw[znQ,ze9];cases (L 0&&d.eff)<;>simp<;>omega
    have hfr:∀(L:Nat→Bool),frL L 0 (((d,uG t d.looks,v0)::l').map dv) t=frL (fun k=>L (k+1)) 0 (l'.map dv) (bif L 0 then zxg t v0 d.rop.dst else t):=by
     intro L;simp only[Yzp];show frL L 0 ((d.rop.dst,v0)::l'.map dv) t=_;rw[zjo,zct]
    refine⟨by simp[g1],?_,?_,?_,?_⟩
    ·cases hd:d.eff with
     |true=>rfl
     |false=>rw[hd]at g2;exact g2
    ·rw[hsh];cases hd:d.eff with
     |true=>simp only[Yza,Yzk,YyA];omega
     |false=>simp only[Yzc,Bool.and_false];omega
    ·rw[hfr,g4];rfl
    ·intro j dj tr v hj;cases j with
     |zero=>
      simp only[Yzg,Option.some.injEq,Prod.mk.injEq]at hj;obtain⟨rfl,rfl,rfl⟩:=hj;have hz:ce (fun k=>decide (k<0)) 0 ((d::ds).map (·.eff))=0:=by
       rw[hsh];simp only[YyE,decide_false,Bool.false_and,Yzc,Yze];have:∀(es:List Bool) (i:Nat),ce (fun _=>false) i es=0:=by
        intro es
        induction es with
        |nil=>intro i;rfl
        |cons e es ih=>intro i;unfold ce;simp[ih]
       exact this _ _
      refine⟨?_,h,h0,?_,hv0,?_⟩
      ·rw[hfr];simp only[YyE,decide_false,Yzc]
       congr 1
       have:∀(r:List (Option BN×Zb)) (i:Nat) (t:Tr Zb),frL (fun _=>false) i r t=t:=by
        intro r
        induction r with
        |nil=>intro i t;rfl
        |cons p r ih=>intro i t;obtain⟨d,v⟩:=p;unfold frL;exact ih _ _
       exact(this _ _ _).symm
      ·rw[hz];cases hd:d.eff with
       |true=>rfl
       |false=>rw[hd]at g2;exact g2
      ·intro hd;rw[hz];rw[hd]at g2 ⊢;exact g2
     |succ j=>
      simp only[Yzl]at hj;obtain⟨k1,hk,h',k2,k3,k4⟩:=g5 j dj tr v hj;have hc:ce (fun k=>decide (k<j+1)) 0 ((d::ds).map (·.eff))=(bif d.eff then 1 else 0)+ce (fun k=>decide (k<j)) 0 (ds.map (·.eff)):=by
       rw[hsh];simp
      refine⟨?_,hk,h',?_,k3,?_⟩
      ·rw[hfr,k1];simp
      ·rw[hc];cases hd:d.eff with
       |true=>simp only[Yza];rw[YyN 1,Yzl];exact k2
       |false=>simp only[Yzc,Yze];exact k2
      ·intro hdj;rw[hc];cases hd:d.eff with
       |true=>simp only[Yza];rw[YyN 1,Yzl];exact k4 hdj
       |false=>simp only[Yzc,Yze];exact k4 hdj
  ·cases e
theorem zbN{call:zg}{o:Zo}{tr:Tr Zb}{v:Zb}:∀(hs:List Za),sameAt call o tr v hs=true→∀(k:Nat) (hk:Za),hs[k]? = some hk→∃h',xC call o tr hk=some (v,h')
 | [],_,k,hk,hh=>by simp at hh
 |h::hs,e,k,hk,hh=>by
  unfold sameAt at e;split at e
  ·rename_i v' h' hv;obtain⟨e1,e2⟩:=zwY e;cases k with
   |zero=>
    simp only[Yzg,Option.some.injEq]at hh;subst hh;exact⟨h',by rw[hv,zjy e1]⟩
   |succ k=>exact zbN hs e2 k hk (by simpa using hh)
  ·cases e
theorem zcD{call:zg}{hs:List Za}:∀(l:List (Zk×Tr Zb×Zb)),vW call hs l=true→∀(j:Nat) (d:Zk) (tr:Tr Zb) (v:Zb),l[j]? = some (d,tr,v)→d.eff=false→
  d.lo=d.hi∨∀k hk,d.lo≤k→k≤d.hi→hs[k]? = some hk→∃h',xC call d.rop tr hk=some (v,h')
 | [],_,j,d,tr,v,hj,_=>by simp at hj
 |(d0,tr0,v0)::l,e,j,d,tr,v,hj,hd=>by
  obtain⟨e1,e2⟩:=zwY e;cases j with
  |zero=>
   simp only[Yzg,Option.some.injEq,Prod.mk.injEq]at hj;obtain⟨rfl,rfl,rfl⟩:=hj;rw[hd]at e1;simp only[Yym,YzL]at e1;rcases e1 with e1|e1
   ·exact .inl (beq_true e1)
   ·refine .inr fun k hk h1 h2 h3=>?_;refine zbN _ e1 (k-d0.lo) hk ?_;rw[List.getElem?_take_of_lt (by show k-d0.lo<Nat.sub (Nat.succ d0.hi) d0.lo;have:Nat.sub (Nat.succ d0.hi) d0.lo=d0.hi+1-d0.lo:=rfl;omega),Yzr];rw[show d0.lo+(k-d0.lo)=k by omega];exact h3
  |succ j=>exact zcD l e2 j d tr v (by simpa using hj) hd
theorem zeF:∀(hs:List Za) (h:Za),hs≠[]→hs[hs.length-1]? = some (zcX h hs)
 | [],_,h=>absurd rfl h
 | [x],_,_=>rfl
 |x::y::hs,h,_=>by
  have:=zeF (y::hs) x (by simp)
  simpa[zcX] using this
theorem zcG(P:Program)(nt:Nat)(ops:Array Oper)(bs:List Nat)(es:List Bool):∀(os:List Oper) (i j:Nat),(ui P nt ops bs es i os)[j]? = (os[j]?).map fun o=>
  (⟨yU P nt ops o,(o.looksAt ops).map bn,!yF P o.op,ce (fun k=>bef bs k (i+j)) 0 es,ce (fun k=>!bef bs (i+j) k) 0 es⟩:Zk)
 | [],i,j=>by simp[ui]
 |o::os,i,0=>by simp[ui]
 |o::os,i,j+1=>by
  simp only[ui,Yzl];rw[zcG P nt ops bs es os (Nat.succ i) j,show Nat.succ i+j=i+(j+1) by omega]
theorem zcH(P:Program)(nt:Nat)(ops:Array Oper)(bs:List Nat)(es:List Bool):∀(os:List Oper) (i:Nat),(ui P nt ops bs es i os).map (·.eff)=zw4 P os
 | [],i=>rfl
 |o::os,i=>by
  have:=zcH P nt ops bs es os (Nat.succ i);simp only[ui,Yzp,this];rfl
theorem vN{p:Nat→Oper→Bool}:∀(os:List Oper) (i:Nat),allI p i os=true→∀(j:Nat) (o:Oper),os[j]? = some o→p (i+j) o=true
 | [],_,_,j,o,hj=>by simp at hj
 |o::os,i,e,0,o',hj=>by
  simp only[Yzg,Option.some.injEq]at hj;subst hj;exact(zwY e).1
 |o::os,i,e,j+1,o',hj=>by
  have:=vN os (Nat.succ i) (zwY e).2 j o' (by simpa using hj)
  rwa [show Nat.succ i+j=i+(j+1) by omega]at this
section
variable {ops:Array Oper}
def Rdy(ops:Array Oper)(L:Nat→Bool)(i:Nat):Prop:=∀o e,ops[i]? = some o→e∈o.after.toList→Region.binds .any e=true→L e.on=true
def Clo(ops:Array Oper)(L:Nat→Bool):Prop:=∀i,L i=true→Rdy ops L i
def zs6(ops:Array Oper)(acc:List Nat):Prop:=∀(i x:Nat),acc[i]? = some x→∀(j:Nat),Nat.testBit x j=true→∀(L:Nat→Bool),Clo ops L→Rdy ops L i→L j=true
theorem zaP{acc:List Nat}{j:Nat}:∀(es:List Edge),Nat.testBit (zh8 acc es) j=true→∃e∈es,Region.binds .any e=true∧(e.on=j∨∃x,acc[e.on]? = some x∧Nat.testBit x j=true)
 | [],h=>by simp[zh8]at h
 |e::es,h=>by
  unfold zh8 at h;cases hb:Region.binds .any e with
  |false=>
   rw[hb]at h;obtain⟨e',h1,h2⟩:=zaP es h;exact⟨e',by simp[h1],h2⟩
  |true=>
   rw[hb]at h;simp only[Yza]at h;have h:Nat.testBit ((2^e.on ||| (acc[e.on]?).getD 0) ||| zh8 acc es) j=true:=h;rw[Nat.testBit_or,Nat.testBit_or,YzL,YzL]at h;rcases h with (h|h)|h
   ·rw[Nat.testBit_two_pow]at h;exact⟨e,by simp,hb,.inl (by simpa using h)⟩
   ·cases hx:acc[e.on]? with
    |none=>rw[hx]at h;simp at h
    |some x=>rw[hx]at h;exact⟨e,by simp,hb,.inr ⟨x,hx,h⟩⟩
   ·obtain⟨e',h1,h2⟩:=zaP es h;exact⟨e',by simp[h1],h2⟩
theorem zcL:∀(os pre:List Oper) (acc:List Nat),ops.toList=pre++os→acc.length=pre.length→zs6 ops acc→zs6 ops (zjQ os acc)
 | [],_,acc,_,_,hg=>hg
 |o::os,pre,acc,hp,hl,hg=>by
  unfold zjQ;refine zcL os (pre++[o]) _ (by simp[hp]) (by simp[hl]) ?_;intro i x hi j hj L hC hR;by_cases hlt:i<acc.length
  ·rw[Lz2 hlt]at hi;exact hg i x hi j hj L hC hR
  ·rw[Lz8 (by omega)]at hi;have h0:i-acc.length=0:=by
    apply Decidable.byContradiction;intro hne;rw[Yyb (by simp;omega)]at hi;cases hi
   rw[h0]at hi;simp only[Yzg,Option.some.injEq]at hi;subst hi;obtain⟨e,he,hb,hh⟩:=zaP _ hj;have ho:ops[i]? = some o:=by
    rw[←LzA,hp,Lz8 (by omega)];rw[show i-pre.length=0 by omega];rfl
   have hon:=hR o e ho he hb;rcases hh with hh|⟨x,hx,hh⟩
   ·rw[←hh];exact hon
   ·exact hg _ x hx j hh L hC (hC _ hon)
theorem wu{i j:Nat}(h:bef (zwR ops.toList) j i=true){L:Nat→Bool}(hC:Clo ops L)(hR:Rdy ops L i):L j=true:=by
 have hg:zs6 ops (zwR ops.toList):=zcL ops.toList [] [] rfl rfl (fun i x hi=>by simp at hi);unfold bef at h;cases hx:(zwR ops.toList)[i]? with
 |none=>rw[hx]at h;simp at h
 |some x=>rw[hx]at h;exact hg i x hx j h L hC hR
def lst(listed:Array Bool)(i:Nat):Bool:=listed.getD i false
theorem mem_ready{listed:Array Bool}{i:Nat}(h:i∈Region.ready .any ops listed):∃o,ops[i]? = some o∧i<listed.size∧lst listed i=false∧Rdy ops (lst listed) i:=by
 unfold Region.ready at h;rw[List.mem_filter]at h;obtain⟨h1,h2⟩:=h;obtain⟨h3,h4⟩:=zwY h2;have hlt:i<listed.size:=by
  apply Decidable.byContradiction;intro hn;rw[Yzy,Yz5 (by omega)]at h3;simp at h3
 cases ho:ops[i]? with
 |none=>rw[ho]at h4;simp at h4
 |some o=>
  rw[ho]at h4;refine⟨o,rfl,hlt,?_,?_⟩
  ·unfold lst;rw[Yzy,Yzt hlt]at h3 ⊢
   simpa using h3
  ·intro o' e ho' he hb;cases ho.symm.trans ho';simp only[Yzv,Yyg,Array.all_eq_true']at h4;have:=h4 e (by simpa using he);rw[hb]at this
   simpa[lst] using this
theorem zlX{listed:Array Bool}(hsz:listed.size=ops.size){i:Nat}{o:Oper}(ho:ops[i]? = some o)(hl:lst listed i=false)(hR:Rdy ops (lst listed) i):i∈Region.ready .any ops listed:=by
 have hi:i<ops.size:=(Lz7.1 ho).1;unfold Region.ready;rw[List.mem_filter];refine⟨by simpa using hi,?_⟩;rw[LzC]
 constructor
 ·unfold lst at hl;rw[Yzy,Yzt (by omega)]at hl ⊢
  simpa using hl
 ·rw[ho];simp only[Yzv,Yyg,Array.all_eq_true'];intro e he;cases hb:Region.binds .any e with
  |false=>rfl
  |true=>simpa[lst] using hR o e ho (by simpa using he) hb
theorem zdU{listed:Array Bool}(hsz:listed.size=ops.size)(hA:∀(i:Nat) (o:Oper) (e:Edge),ops[i]? = some o→e∈o.after.toList→Region.binds .any e=true→e.on<i)
  (hnil:Region.ready .any ops listed=[]):∀i,i<ops.size→lst listed i=true:=by
 intro i
 induction i using Nat.strongRecOn with
 |_ i ih=>
  intro hi;cases hl:lst listed i with
  |true=>rfl
  |false=>
   have:=zlX (ops:=ops) hsz (Yzt hi) hl (fun o e ho he hb=>by
    have h1:=hA i o e ho he hb;exact ih _ h1 (by omega))
   rw[hnil]at this;cases this
theorem wR{listed:Array Bool}{i:Nat}(hi:i<listed.size)(j:Nat):lst (listed.setIfInBounds i true) j=(decide (j=i)||lst listed j):=by
 unfold lst;rw[Yzy,Yzy,YzP];by_cases h:i=j
 ·subst h;simp[hi]
 ·rw[Yzb h];have:¬j=i:=fun e=>h e.symm;simp[this]
def unl(listed:Array Bool):Nat:=listed.toList.count false
theorem zln{listed:Array Bool}{i:Nat}(hi:i<listed.size)(hl:lst listed i=false):unl (listed.setIfInBounds i true)+1=unl listed:=by
 unfold unl;rw[Array.toList_setIfInBounds,List.count_set (by simpa using hi)];have hg:listed.toList[i]'(by simpa using hi)=false:=by
  unfold lst at hl;rw[Yzy,Yzt hi]at hl
  simpa using hl
 have hpos:0<listed.toList.count false:=List.count_pos_iff.2 (by rw[←hg];exact List.getElem_mem _);rw[hg];simp only[Yyr,if_true];have:(true==false)=false:=rfl;rw[this];simp only[Yzh,if_false];omega
theorem zis{listed:Array Bool}(h:unl listed=0){i:Nat}(hi:i<listed.size):lst listed i=true:=by
 unfold unl at h;rw[List.count_eq_zero]at h;unfold lst;rw[Yzy,Yzt hi];simp only[Yyg];cases hb:listed[i] with
 |true=>rfl
 |false=>exact absurd (by rw[←hb];simp) h
end
end Go.CE
end
section
namespace Go.CE
open Go.RowKit
section
variable {P:Program} {w0:World} {S:Nat→Prop} {nt:Nat} {call:zg} {ops:Array Oper}
theorem Zi.of_get{φ:Phi}{n:Nat}{t t':Tr Zb}{arr:Array Value}(T:Zi φ nt n t arr)(h:∀s,t'.get s=t.get s):Zi φ nt n t' arr:=
 ⟨T.size,fun i hi=>by rw[h];exact T.get i hi,fun i hi=>by rw[h];exact T.out i hi,fun i v hv=>T.wf i v (by rw[←h];exact hv)⟩
noncomputable def wT(φ:Phi)(nt:Nat)(t:Tr Zb):Array Value:=Array.ofFn (n:=nt) fun i=>zq φ ((t.get (bn i.val)).getD yh)
theorem zgl{φ:Phi}{n:Nat}{t:Tr Zb}(h1:∀i,nt≤i→t.get (bn i)=none)(h2:∀i v,t.get i=some v→wfA φ n v):Zi φ nt n t (wT φ nt t):=
 ⟨by simp[wT],fun i hi=>by simp[wT,hi],h1,h2⟩
theorem zgf{φ:Phi}{t:Tr Zb}{h h2:Za}{a:Act}{v:Zb}{o:Oper}(e:xC call (yU P nt ops o) t h=some (v,h2))(T:Zi φ nt h.n.toNat t a.tmps):
  (Region.wanted o (yielded ops a.tmps)=true∧cOp P o.op call t h=some (v,h2))∨(Region.wanted o (yielded ops a.tmps)=false∧v=yh∧h2=h):=by
 unfold yU at e;have bad:∀{o':Zo},o'=⟨none,y9,none⟩→xC call o' t h=some (v,h2)→False:=by
  intro o' ho' e;subst ho';cases e
 cases hd:inT nt o.dst with
 |false=>rw[hd]at e;exact(bad rfl e).elim
 |true=>
  rw[hd]at e;simp only[Yza]at e;have fin:∀g,xC call ⟨o.dst.map bn,cOp P o.op,g⟩ t h=some (v,h2)→(want t g=true∧cOp P o.op call t h=some (v,h2))∨(want t g=false∧v=yh∧h2=h):=by
   intro g e;unfold xC at e;simp only at e;cases hw:want t g with
   |false=>rw[hw]at e;cases e;exact .inr ⟨rfl,rfl,rfl⟩
   |true=>rw[hw]at e;exact .inl ⟨rfl,e⟩
  split at e
  ·rename_i hg;rcases fin none e with hh|⟨hw,_⟩
   ·exact .inl ⟨by simp[Region.wanted,hg],hh.2⟩
   ·cases hw
  ·rename_i j b hg;split at e
   ·rename_i d hjd;cases hb:Nat.ble (Nat.succ d) nt with
    |false=>rw[hb]at e;exact(bad rfl e).elim
    |true=>
     rw[hb]at e;have hyd:=zam T hjd (yb hb) b;rcases fin (some (bn d,b)) e with⟨hw,hh⟩|⟨hw,hh⟩
     ·exact .inl ⟨by simp only[Region.wanted,hg];rw[hyd];exact hw,hh⟩
     ·exact .inr ⟨by simp only[Region.wanted,hg];rw[hyd];exact hw,hh⟩
   ·exact(bad rfl e).elim
theorem zaa{t:Tr Zb}{h:Za}{r:Zb×Za}{o:Oper}(e:xC call (yU P nt ops o) t h=some r):(yU P nt ops o).dst=o.dst.map bn∧inT nt o.dst=true:=by
 have bad:∀{o':Zo},o'=⟨none,y9,none⟩→xC call o' t h=some r→False:=by
  intro o' ho' e;subst ho';cases e
 unfold yU at e ⊢;cases hd:inT nt o.dst with
 |false=>rw[hd]at e;exact(bad rfl e).elim
 |true=>
  rw[hd]at e;simp only[Yza]at e ⊢;cases hg:o.guard with
  |none=>exact⟨rfl,trivial⟩
  |some gb=>
   obtain⟨j,b⟩:=gb;rw[hg]at e;simp only at e ⊢;cases hj:(ops[j]?).bind (·.dst) with
   |none=>rw[hj]at e;exact(bad rfl e).elim
   |some d=>
    rw[hj]at e;simp only at e ⊢;cases hb:Nat.ble (Nat.succ d) nt with
    |false=>rw[hb]at e;exact(bad rfl e).elim
    |true=>exact⟨rfl,trivial⟩
theorem zhV(hok:zac P ops (zwR ops.toList)=true):(∀(i:Nat) (o:Oper),ops[i]? = some o→(∀cs b,o.op≠.select cs b)∧∀e∈o.after.toList,Region.binds .any e=true→e.on<i)∧
  ∀(i j:Nat) (oi oj:Oper),ops[i]? = some oi→ops[j]? = some oj→i<j→bef (zwR ops.toList) i j=true∨(oi.apart ops oj=true∧(yF P oi.op=true∨yF P oj.op=true)):=by
 obtain⟨h1,h2⟩:=zwY hok
 constructor
 ·intro i o ho;have:=vN _ 0 h1 i o (by rw[LzA];exact ho);rw[Yze]at this;obtain⟨g1,g2⟩:=zwY this;refine⟨(fun cs b hh=>by rw[hh]at g1;cases g1),fun e he hb=>?_⟩;rw[Yz1]at g2;have:=g2 e he;rw[hb]at this;exact yb (by simpa using this)
 ·intro i j oi oj hi hj hlt;have:=vN _ 0 h2 j oj (by rw[LzA];exact hj);rw[Yze]at this;have:=vN _ 0 this i oi (by rw[LzA];exact hi);rw[Yze]at this;simp only[YzL]at this;rcases this with (this|this)|this
  ·have hle:Nat.ble (Nat.succ i) j=true:=Yzm hlt;rw[hle]at this;cases this
  ·exact .inl this
  ·obtain⟨k1,k2⟩:=zwY this;exact .inr ⟨k1,by simpa using k2⟩
theorem znH(C:yT P call){Q:Exit→Act→World→Prop}{a0:Act}{t t2:Tr Zb}{h:Za}{φ0:Phi}{l:List (Zk×Tr Zb×Zb)}{hs:List Za}{ro:Option Nat}
  (hok:zac P ops (zwR ops.toList)=true) (hev:evD call (zbe P nt ops) t h=some (l,t2,hs)) (hch:vW call hs l=true)
  (hQ:∀a2 w2,Next1 w0 S φ0 nt h t2 (zcX h hs) a0 a2 w2→Q .normal a2 w2):
  ∀(fuel:Nat) (listed:Array Bool) (φ:Phi) (a:Act) (w:World) (Hk:Za),listed.size=ops.size→unl listed≤fuel→Clo ops (lst listed)→Ext h.n.toNat φ0 φ→
   hs[ce (lst listed) 0 (zw4 P ops.toList)]? = some Hk→Zd w0 S φ Hk w→h.n.toNat≤Hk.n.toNat→Zi φ nt Hk.n.toNat (frL (lst listed) 0 (l.map dv) t) a.tmps→a.defers=a0.defers→
   wpAnyIn (FR ro) 0 P .any ops Q fuel listed a w:=by
 obtain⟨hA,hord⟩:=zhV hok;obtain⟨g1,g2,g3,g4,g5⟩:=zeV call _ _ _ _ _ _ hev;have heff:(zbe P nt ops).map (·.eff)=zw4 P ops.toList:=zcH _ _ _ _ _ _ _;rw[heff]at g3 g5;have hl:∀(j:Nat) (o:Oper),ops[j]? = some o→∃tr v,l[j]? = some ((⟨yU P nt ops o,(o.looksAt ops).map bn,!yF P o.op,ce (fun k=>bef (zwR ops.toList) k j) 0 (zw4 P ops.toList),ce (fun k=>!bef (zwR ops.toList) j k) 0 (zw4 P ops.toList)⟩:Zk),tr,v):=by
  intro j o ho;have h1:(zbe P nt ops)[j]? = some ⟨yU P nt ops o,(o.looksAt ops).map bn,!yF P o.op,ce (fun k=>bef (zwR ops.toList) k j) 0 (zw4 P ops.toList),ce (fun k=>!bef (zwR ops.toList) j k) 0 (zw4 P ops.toList)⟩:=by
   unfold zbe;rw[zcG,LzA,ho,Yze];rfl
  rw[←g1,Lz6]at h1;cases hx:l[j]? with
  |none=>rw[hx]at h1;cases h1
  |some x=>
   obtain⟨d,tr,v⟩:=x;rw[hx]at h1;simp only[Yzv,Option.some.injEq]at h1;exact⟨tr,v,by rw[←h1]⟩
 have hlen:l.length=ops.size:=by
  have h1:=congrArg List.length g1;have h2:=congrArg List.length heff;simp only[Yzj,zw4,YyP]at h1 h2;omega
 have hdst:∀(j:Nat) (o:Oper) (d:Zk) (tr:Tr Zb) (v:Zb),ops[j]? = some o→l[j]? = some (d,tr,v)→d.rop.dst=o.dst.map bn∧inT nt o.dst=true:=by
  intro j o d tr v ho hj;obtain⟨tr',v',hj'⟩:=hl j o ho;cases hj.symm.trans hj';obtain⟨_,hk,h',_,hone,_⟩:=g5 j _ tr v hj;exact zaa hone
 have hdv:∀(j:Nat) (d:Option BN) (v:Zb) (s:BN),(l.map dv)[j]? = some (d,v)→d=some s→∃o sn,ops[j]? = some o∧o.dst=some sn∧bn sn=s:=by
  intro j d v s hj hd;rw[Lz6]at hj;cases hx:l[j]? with
  |none=>rw[hx]at hj;cases hj
  |some x=>
   obtain⟨d',tr,v'⟩:=x;rw[hx]at hj;simp only[Yzv,Option.some.injEq,dv,Prod.mk.injEq]at hj;have hjl:j<ops.size:=by
    have:=(Lz0.1 hx).1;omega
   have ho:ops[j]? = some ops[j]:=Yzt hjl;have:=(hdst j _ d' tr v' ho hx).1;rw[hj.1,hd]at this;cases hod:(ops[j]).dst with
   |none=>rw[hod]at this;cases this
   |some sn=>
    rw[hod]at this;exact⟨_,sn,ho,hod,by simpa using this.symm⟩
 have hes:∀(j:Nat),(zw4 P ops.toList)[j]? = some true→∃o,ops[j]? = some o∧yF P o.op=false:=by
  intro j hj;unfold zw4 at hj;rw[Lz6,LzA]at hj;cases ho:ops[j]? with
  |none=>rw[ho]at hj;cases hj
  |some o=>rw[ho]at hj;exact⟨o,rfl,by simpa using hj⟩
 have hes':∀(j:Nat) (o:Oper),ops[j]? = some o→(zw4 P ops.toList)[j]? = some (!yF P o.op):=by
  intro j o ho;unfold zw4;rw[Lz6,LzA,ho];rfl
 intro fuel
 induction fuel with
 |zero=>
  intro listed φ a w Hk hsz hu hC hE hH HR hn T hdf;have hall:∀i,i<ops.size→lst listed i=true:=fun i hi=>zis (by omega) (by omega);have hnil:Region.ready .any ops listed=[]:=by
   cases hr:Region.ready .any ops listed with
   |nil=>rfl
   |cons i r=>
    obtain⟨o,ho,h1,h2,h3⟩:=mem_ready (ops:=ops) (listed:=listed) (i:=i) (by rw[hr];simp);rw[hall i (by omega)]at h2;cases h2
  refine⟨hnil,hQ a w ⟨φ,hE,?_,?_,hdf,?_⟩⟩
  all_goals
   have hk:Hk=zcX h hs:=by
    have h1:=zeF hs h (fun hh=>by rw[hh]at g2;cases g2);rw[g3,Nat.add_sub_cancel]at h1;rw[wL (L:=lst listed) (L':=fun _=>true) _ 0 (fun j hj=>by obtain⟨o,ho,_⟩:=hes j hj;rw[Yze];exact hall j (Lz7.1 ho).1)]at hH;exact Option.some.inj (hH.symm.trans h1)
   subst hk
  ·exact HR
  ·rw[g4,←qV (L:=lst listed) (l.map dv) 0 t (fun j hj=>by rw[Yze];exact hall j (by simpa[hlen] using hj))];exact T
  ·exact hn
 |succ fuel ih=>
  intro listed φ a w Hk hsz hu hC hE hH HR hn T hdf;refine⟨fun hnil=>?_,fun i hi=>?_⟩
  ·have hall:=zdU (ops:=ops) hsz (fun i o e ho he hb=>(hA i o ho).2 e he hb) hnil;have hk:Hk=zcX h hs:=by
    have h1:=zeF hs h (fun hh=>by rw[hh]at g2;cases g2);rw[g3,Nat.add_sub_cancel]at h1;rw[wL (L:=lst listed) (L':=fun _=>true) _ 0 (fun j hj=>by obtain⟨o,ho,_⟩:=hes j hj;rw[Yze];exact hall j (Lz7.1 ho).1)]at hH;exact Option.some.inj (hH.symm.trans h1)
   subst hk;refine hQ a w ⟨φ,hE,HR,?_,hdf,hn⟩;rw[g4,←qV (L:=lst listed) (l.map dv) 0 t (fun j hj=>by rw[Yze];exact hall j (by simpa[hlen] using hj))];exact T
  ·obtain⟨o,ho,hlt,hli,hR⟩:=mem_ready hi;obtain⟨tr,v,hj⟩:=hl i o ho;obtain⟨htr,hk0,h0',hk0s,hone0,heff0⟩:=g5 i _ tr v hj;obtain⟨hnosel,hedge⟩:=hA i o ho;obtain⟨hdd,hdin⟩:=hdst i o _ tr v ho hj;have before:∀j,bef (zwR ops.toList) j i=true→lst listed j=true:=fun j hb=>wu hb hC hR;have after:∀j,bef (zwR ops.toList) i j=true→lst listed j=false:=by
    intro j hb;cases hj:lst listed j with
    |false=>rfl
    |true=>
     have:=wu hb hC (hC j hj);rw[hli]at this;cases this
   have hCi:Clo ops (fun k=>decide (k<i)):=by
    intro j hj o' e ho' he hb;have:=(hA j o' ho').2 e he hb;simp only[Yzn]at hj ⊢;omega
   have hRi:Rdy ops (fun k=>decide (k<i)) i:=by
    intro o' e ho' he hb;have:=(hA i o' ho').2 e he hb
    simpa using this
   have hagree:∀s∈(o.looksAt ops).map bn,(frL (fun k=>decide (k<i)) 0 (l.map dv) t).get s=(frL (lst listed) 0 (l.map dv) t).get s:=by
    intro s hs';obtain⟨sn,hsn,rfl⟩:=List.mem_map.1 hs';rw[uQ,uQ]
    congr 1
    refine qM _ 0 fun j d v hjd hds=>?_;obtain⟨oj,sj,hoj,hsj,hbe⟩:=hdv j d v _ hjd hds;have:=u4 hbe;subst this;rw[Yze];rcases YyI j i with hji|hji|hji
    ·rcases hord j i oj o hoj ho hji with hb|⟨hap,_⟩
     ·rw[before j hb];simpa using hji
     ·exact absurd hsn ((Oper.apart_spec hap).1 _ hsj)
    ·subst hji;rw[hli];simp
    ·rcases hord i j o oj ho hoj hji with hb|⟨hap,_⟩
     ·rw[after j hb];simp;omega
     ·exact absurd hsn ((Oper.apart_spec hap).2.2 _ hsj)
   have htrg:∀s,tr.get s=(frL (lst listed) 0 (l.map dv) t).get s∧s∈(o.looksAt ops).map bn∨tr.get s=none:=by
    intro s
    classical
    have:=vu (frL (fun k=>decide (k<i)) 0 (l.map dv) t) s ((o.looksAt ops).map bn);rw[←htr]at this;by_cases hm:s∈(o.looksAt ops).map bn
    ·rw[Yzd hm,hagree s hm]at this;exact .inl ⟨this,hm⟩
    ·rw[Yzb hm]at this;exact .inr this
   have Tr':Zi φ nt Hk.n.toNat tr (wT φ nt tr):=by
    refine zgl (fun j hj=>?_) (fun s v hv=>?_)
    ·rcases htrg (bn j) with⟨h1,_⟩|h1
     ·rw[h1];exact T.out j hj
     ·exact h1
    ·rcases htrg s with⟨h1,_⟩|h1
     ·rw[h1]at hv;exact T.wf s v hv
     ·rw[h1]at hv;cases hv
   have htmps:∀sn∈o.looksAt ops,a.tmps[sn]? = (wT φ nt tr)[sn]?:=by
    intro sn hsn;by_cases hlt':sn<nt
    ·rw[T.get sn hlt',Tr'.get sn hlt'];have hm:bn sn∈(o.looksAt ops).map bn:=List.mem_map.2 ⟨sn,hsn,rfl⟩;rw[←hagree _ hm]
     classical
     have:=vu (frL (fun k=>decide (k<i)) 0 (l.map dv) t) (bn sn) ((o.looksAt ops).map bn);rw[←htr,Yzd hm]at this;rw[this]
    ·have e1:a.tmps[sn]? = none:=Yz5 (by rw[T.size];exact Nat.le_of_not_lt hlt');have e2:(wT φ nt tr)[sn]? = none:=Yz5 (by rw[Tr'.size];exact Nat.le_of_not_lt hlt');rw[e1,e2]
   have hexec:execOp a.eval o=execOp ({ tmps:=wT φ nt tr,defers:=[] }:Act).eval o:=by
    refine execOp_congr o hnosel fun x hx=>?_;cases x with
    |tmp sn=>
     have:=htmps sn (Yzx _ (List.mem_filterMap.2 ⟨.tmp sn,by simpa using hx,rfl⟩));simp only[Act.eval,Yzy,this]
    |_=>rfl
   have hwant:Region.wanted o (yielded ops a.tmps)=Region.wanted o (yielded ops (wT φ nt tr)):=by
    unfold Region.wanted;cases hg:o.guard with
    |none=>rfl
    |some gb=>
     obtain⟨g,b⟩:=gb;simp only;have:yielded ops a.tmps g=yielded ops (wT φ nt tr) g:=by
      unfold yielded;cases hd:(ops[g]?).bind (·.dst) with
      |none=>rfl
      |some sn=>
       have:=htmps sn (YzF _ (by simp[hg,hd]));simp only[Yz0,this]
     rw[this]
   have hone:∃h',xC call (yU P nt ops o) tr Hk=some (v,h')∧hs[ce (lst (listed.setIfInBounds i true)) 0 (zw4 P ops.toList)]? = some h':=by
    cases hq:yF P o.op with
    |false=>
     have hce:ce (lst listed) 0 (zw4 P ops.toList)=ce (fun k=>decide (k<i)) 0 (zw4 P ops.toList):=by
      refine wL _ 0 fun j hj=>?_;obtain⟨oj,hoj,hqj⟩:=hes j hj;rw[Yze];rcases YyI j i with hji|hji|hji
      ·rcases hord j i oj o hoj ho hji with hb|⟨_,hqq⟩
       ·rw[before j hb];simpa using hji
       ·rw[hq,hqj]at hqq;simp at hqq
      ·subst hji;rw[hli];simp
      ·rcases hord i j o oj ho hoj hji with hb|⟨_,hqq⟩
       ·rw[after j hb];simp;omega
       ·rw[hq,hqj]at hqq;simp at hqq
     rw[hce]at hH;cases hH.symm.trans hk0s;refine⟨h0',hone0,?_⟩;have:=heff0 (by simp[hq]);rw[←hce]at this;rw[zgq (L:=lst listed) (zw4 P ops.toList) 0 i (by rw[hes' i o ho,hq];rfl) (by rw[Yze];exact hli) (by rw[wR hlt];simp) (fun j hj=>by rw[Yze]at hj;rw[wR hlt];simp[hj])];exact this
    |true=>
     have hsame:ce (lst (listed.setIfInBounds i true)) 0 (zw4 P ops.toList)=ce (lst listed) 0 (zw4 P ops.toList):=by
      refine wL _ 0 fun j hj=>?_;rw[Yze,wR hlt];obtain⟨oj,hoj,hqj⟩:=hes j hj;have:j≠i:=fun hh=>by subst hh;cases ho.symm.trans hoj;rw[hq]at hqj;cases hqj
      simp[this]
     have hlo:ce (fun k=>bef (zwR ops.toList) k i) 0 (zw4 P ops.toList)≤ce (lst listed) 0 (zw4 P ops.toList):=wj _ 0 fun j _ hb=>by rw[Yze]at hb ⊢;exact before j hb
     have hhi:ce (lst listed) 0 (zw4 P ops.toList)≤ce (fun k=>!bef (zwR ops.toList) i k) 0 (zw4 P ops.toList):=wj _ 0 fun j _ hb=>by
      rw[Yze]at hb ⊢;cases hbb:bef (zwR ops.toList) i j with
      |false=>rfl
      |true=>rw[after j hbb]at hb;cases hb
     have hlo0:ce (fun k=>bef (zwR ops.toList) k i) 0 (zw4 P ops.toList)≤ce (fun k=>decide (k<i)) 0 (zw4 P ops.toList):=wj _ 0 fun j _ hb=>by rw[Yze]at hb ⊢;exact wu hb hCi hRi
     have hhi0:ce (fun k=>decide (k<i)) 0 (zw4 P ops.toList)≤ce (fun k=>!bef (zwR ops.toList) i k) 0 (zw4 P ops.toList):=wj _ 0 fun j _ hb=>by
      rw[Yze]at hb ⊢;cases hbb:bef (zwR ops.toList) i j with
      |false=>rfl
      |true=>
       have:=wu hbb hCi (hCi j hb);simp at this
     have hex:∃h',xC call (yU P nt ops o) tr Hk=some (v,h'):=by
      rcases zcD l hch i _ tr v hj (by simp[hq]) with heq|hall
      ·simp only at heq;have:ce (lst listed) 0 (zw4 P ops.toList)=ce (fun k=>decide (k<i)) 0 (zw4 P ops.toList):=by omega
       rw[this]at hH;cases hH.symm.trans hk0s;exact⟨h0',hone0⟩
      ·exact hall _ Hk hlo hhi hH
     obtain⟨h',hh'⟩:=hex;refine⟨h',hh',?_⟩;have:h'=Hk:=by
      rcases zgf (a:={ tmps:=wT φ nt tr,defers:=[] }) hh' Tr' with⟨_,hc⟩|⟨_,_,hc⟩
      ·exact zlx P o.op hq _ _ _ _ _ hc
      ·exact hc
     rw[this,hsame];exact hH
   obtain⟨h',hone,hH'⟩:=hone;have hC':Clo ops (lst (listed.setIfInBounds i true)):=by
    intro j hj o' e ho' he hb;rw[wR hlt]at hj ⊢;rw[YzL]
    right
    simp only[YzL,Yzn]at hj;rcases hj with hj|hj
    ·subst hj;exact hR o' e ho' he hb
    ·exact hC j hj o' e ho' he hb
   have next:∀(φ2:Phi) (w2:World),Ext Hk.n.toNat φ φ2→Zd w0 S φ2 h' w2→wfA φ2 h'.n.toNat v→Hk.n.toNat≤h'.n.toNat→wpAnyIn (FR ro) 0 P .any ops Q fuel (listed.setIfInBounds i true) (a.put o.dst (zq φ2 v)) w2:=by
    intro φ2 w2 he H2 hv hle;refine ih _ φ2 _ w2 h' (by simpa using hsz) ?_ hC' (hE.trans he hn) hH' H2 (YzA hn hle) ?_ ((put_defers _ _ _).trans hdf)
    ·have:=zln hlt hli;omega
    ·refine Zi.of_get (Zi.put (T.ext he hle) hv o.dst hdin) fun s=>?_
     classical
     rw[zd9,uQ];have hri:(l.map dv)[i]? = some (o.dst.map bn,v):=by
      rw[Lz6,hj];simp only[Yzv,dv];rw[←hdd]
     by_cases hd:o.dst.map bn=some s
     ·rw[Yzd hd];rw[hd]at hri;rw[zhw (l.map dv) 0 i v hri (by rw[Yze,wR hlt];simp) (fun j d u hij hjd hds=>?_)]
      ·rfl
      ·rw[Yze,wR hlt];obtain⟨oj,sj,hoj,hsj,hbe⟩:=hdv j d u _ hjd hds;have hne:¬j=i:=by omega
       simp only[hne,decide_false,Yym];rcases hord i j o oj ho hoj hij with hb|⟨hap,_⟩
       ·exact after j hb
       ·cases hod:o.dst with
        |none=>rw[hod]at hd;cases hd
        |some so=>
         rw[hod]at hd;have:so=sj:=u4 (by rw[hbe];simpa using hd);subst this;exact absurd hsj ((Oper.apart_spec hap).2.1 _ hod)
     ·rw[Yzb hd,uQ]
      congr 1
      refine qM _ 0 fun j d u hjd hds=>?_;rw[Yze,wR hlt];have hne:¬j=i:=fun hh=>by
       subst hh;rw[hri]at hjd;cases hjd;exact hd hds
      simp[hne]
   unfold wpOpIn;simp only[ho];rcases zgf (a:={ tmps:=wT φ nt tr,defers:=[] }) hone Tr' with⟨hw,hc⟩|⟨hw,hv,hh⟩
   ·rw[Yzd (by rw[hwant];exact hw)];exact zfO C HR (ar:={ tmps:=wT φ nt tr,defers:=[] }) Tr' hexec hc next
   ·rw[Yzb (by rw[hwant,hw];simp)];subst hv hh;exact⟨fun f _=>trivial,next φ w (Ext.refl _ _) HR (fun _ hv=>by cases hv) (LzB _)⟩
end
end Go.CE
end
section
namespace Go.CE
open Go.RowKit
section
variable {α:Type}
theorem jI:∀(n:BN) (t:Tr α),(t.del n).get n=none:=by
 intro n
 induction n with
 |z=>intro t;cases t<;>rfl
 |o n ih=>intro t;cases t with
  |nil=>rfl
  |node l v r=>exact ih l
 |d n ih=>intro t;cases t with
  |nil=>rfl
  |node l v r=>exact ih r
theorem uO:∀(n m:BN) (t:Tr α),m≠n→(t.del n).get m=t.get m:=by
 intro n
 induction n with
 |z=>intro m t h;cases t with
  |nil=>rfl
  |node l v r=>cases m with
   |z=>exact absurd rfl h
   |o m=>rfl
   |d m=>rfl
 |o n ih=>intro m t h;cases t with
  |nil=>rfl
  |node l v r=>cases m with
   |z=>rfl
   |o m=>exact ih m l (fun e=>h (by rw[e]))
   |d m=>rfl
 |d n ih=>intro m t h;cases t with
  |nil=>rfl
  |node l v r=>cases m with
   |z=>rfl
   |o m=>rfl
   |d m=>exact ih m r (fun e=>h (by rw[e]))
end
abbrev nm(n0 j:Nat):BN:=bn (Nat.add n0 j)
theorem yB(n0 j:Nat):(nm n0 j).toNat=n0+j:=zK _
theorem vR{n0 i j:Nat}(h:nm n0 i=nm n0 j):i=j:=by
 have:=congrArg BN.toNat h;rw[yB,yB]at this;omega
theorem zvS{n0:Nat}{b:BN}(h:n0≤b.toNat):b=nm n0 (b.toNat-n0):=by
 apply BN.toNat_inj;rw[yB];omega
theorem zcy{n0:Nat}:∀(l:List Nat) (t:Tr Ze) (j:Nat),j∈l→(zxa n0 l t).get (nm n0 j)=none
 | [],_,j,h=>by cases h
 |i::l,t,j,h=>by
  unfold zxa;by_cases hj:j∈l
  ·exact zcy l _ j hj
  ·have hji:j=i:=by
    rcases YzO.1 h with h|h
    ·exact h
    ·exact absurd h hj
   subst hji;have key:∀(l:List Nat) (t:Tr Ze) (b:BN),t.get b=none→(zxa n0 l t).get b=none:=by
    intro l
    induction l with
    |nil=>intro t b h;exact h
    |cons i l ih=>
     intro t b h;unfold zxa;apply ih;by_cases hb:b=bn (Nat.add n0 i)
     ·subst hb;exact jI _ _
     ·rw[uO _ _ _ hb];exact h
   exact key l _ _ (jI _ _)
theorem vU{n0:Nat}:∀(l:List Nat) (t:Tr Ze) (b:BN),(∀j∈l,b≠nm n0 j)→(zxa n0 l t).get b=t.get b
 | [],_,_,_=>rfl
 |i::l,t,b,h=>by
  unfold zxa;rw[vU l _ b fun j hj=>h j (by simp[hj]),uO _ _ _ (h i (by simp))]
theorem ky{n0:Nat}{h:Tr Ze}:∀(l:List Nat) (t t':Tr Ze),zff n0 h l t=some t'→
  (∀j∈l,t'.get (nm n0 j)=h.get (nm n0 j))∧(∀b,(∀j∈l,b≠nm n0 j)→t'.get b=t.get b)∧∀j∈l,t.get (nm n0 j)=none
 | [],t,t',e=>by cases e;exact⟨fun j hj=>(by cases hj),fun _ _=>rfl,fun j hj=>(by cases hj)⟩
 |i::l,t,t',e=>by
  unfold zff at e;split at e
  ·cases e
  ·rename_i hn;split at e
   ·rename_i o ho;obtain⟨g1,g2,g3⟩:=ky l _ t' e;have hni:∀j∈l,nm n0 i≠nm n0 j:=fun j hj hh=>by
     have:=g3 j hj;rw[←hh]at this;rw[show nm n0 i=bn (Nat.add n0 i) from rfl,zz]at this;cases this
    refine⟨fun j hj=>?_,fun b hb=>?_,fun j hj=>?_⟩
    ·rcases YzO.1 hj with rfl|hj
     ·rw[g2 _ hni,show nm n0 j=bn (Nat.add n0 j) from rfl,zz,ho]
     ·exact g1 j hj
    ·rw[g2 b fun j hj=>hb j (by simp[hj])];exact zp _ _ _ _ (hb i (by simp))
    ·rcases YzO.1 hj with rfl|hj
     ·exact hn
     ·have:=g3 j hj
      rwa [zp _ _ _ _ (fun hh=>hni j hj hh.symm)]at this
   ·rename_i ho;obtain⟨g1,g2,g3⟩:=ky l _ t' e;refine⟨fun j hj=>?_,fun b hb=>g2 b fun j hj=>hb j (by simp[hj]),fun j hj=>?_⟩
    ·rcases YzO.1 hj with rfl|hj
     ·by_cases hm:∀k∈l,nm n0 j≠nm n0 k
      ·rw[g2 _ hm];exact hn.trans ho.symm
      ·simp only[Classical.not_forall,ne_eq,Classical.not_not]at hm;obtain⟨k,hk,he⟩:=hm;rw[he];exact g1 k hk
     ·exact g1 j hj
    ·rcases YzO.1 hj with rfl|hj
     ·exact hn
     ·exact g3 j hj
theorem zAu{n0:Nat}(h t:Tr Ze):∀(l:List Nat),∃t':Tr Ze,(∀j∈l,t'.get (nm n0 j)=h.get (nm n0 j))∧∀b,(∀j∈l,b≠nm n0 j)→t'.get b=t.get b
 | []=>⟨t,fun j hj=>(by cases hj),fun _ _=>rfl⟩
 |i::l=>by
  obtain⟨t1,g1,g2⟩:=zAu h t l;have key:∃t2:Tr Ze,t2.get (nm n0 i)=h.get (nm n0 i)∧∀b,b≠nm n0 i→t2.get b=t1.get b:=by
   cases ho:h.get (nm n0 i) with
   |none=>exact⟨t1.del (nm n0 i),jI _ _,fun b hb=>uO _ _ _ hb⟩
   |some o=>exact⟨t1.set (nm n0 i) o,zz _ _ _,fun b hb=>zp _ _ _ _ hb⟩
  obtain⟨t2,k1,k2⟩:=key;refine⟨t2,fun j hj=>?_,fun b hb=>?_⟩
  ·by_cases hji:nm n0 j=nm n0 i
   ·rw[hji];exact k1
   ·rw[k2 _ hji];rcases YzO.1 hj with rfl|hj
    ·exact absurd rfl hji
    ·exact g1 j hj
  ·rw[k2 b (hb i (by simp)),g2 b fun j hj=>hb j (by simp[hj])]
def Sbh(e h:Za):Prop:=∀b o,e.t.get b=some o→h.t.get b=some o
section
variable {w0:World} {S:Nat→Prop} {φ φ2:Phi} {h e e2 h2:Za} {w w2:World}
def zze(φ:Phi)(e:Za)(k:Nat):Prop:=∃b o,e.t.get b=some o∧live o∧(φ b).blk=k
theorem Zd.sub(H:Zd w0 S φ h w)(hs:Sbh e h)(hn:e.n.toNat=h.n.toNat):Zd w (zze φ e) φ e w:=
 ⟨fun b o hb => by rw [hn]; exact H.keys b o (hs b o hb), fun b o hb => H.okb b o (hs b o hb), fun b o hb => by rw [hn]; exact H.obj b o (hs b o hb),
  fun b b' o o' hb hb' hl hl' he=>H.inj b b' o o' (hs b o hb) (hs b' o' hb') hl hl' he,fun b o hb hl=>.inl ⟨b,o,hb,hl,rfl⟩,rfl,rfl,rfl,LzB _,LzB _,fun _ _ _=>rfl,H.glob,fun b o hb hl=>H.flat b o (hs b o hb) hl,fun b o hb hl=>H.ng b o (hs b o hb) hl⟩
theorem Zd.join(H:Zd w0 S φ h w)(hs:Sbh e h)(_hn:e.n.toNat=h.n.toNat)(H2:Zd w (zze φ e) φ2 e2 w2)(he:Ext h.n.toNat φ φ2)(hle:h.n.toNat≤e2.n.toNat)
  (hn2:h2.n.toNat=e2.n.toNat) (hg:∀b o,h2.t.get b=some o→e2.t.get b=some o∨(h.t.get b=some o∧e.t.get b=none)):Zd w0 S φ2 h2 w2:=by
 have hold:∀b o,h.t.get b=some o→φ2 b=φ b:=fun b o hb=>he b (H.keys b o hb);have hdesc:∀k,zze φ e k→S k∨w0.heap.size≤k:=by
  rintro k ⟨b,o,hb,hl,rfl⟩
  exact H.own b o (hs b o hb) hl
 have hrest:∀b o,h.t.get b=some o→e.t.get b=none→live o→¬zze φ e (φ b).blk:=by
  rintro b o hb hn hl ⟨c,o',hc,hl',hcc⟩
  have:=H.inj c b o' o (hs c o' hc) hb hl' hl hcc;subst this;rw[hn]at hc;cases hc
 have hlt:∀b o,h.t.get b=some o→live o→(φ b).blk<w.heap.size:=fun b o hb hl=>(H.obj b o hb).there hl;refine⟨fun b o hb=>?_,fun b o hb=>?_,fun b o hb=>?_,fun b b' o o' hb hb' hl hl' hh=>?_,fun b o hb hl=>?_,H2.os.trans H.os,H2.tape.trans H.tape,H2.output.trans H.output,YzA H.size H2.size,YzA H.drawn H2.drawn,fun k hk hS=>?_,H2.glob,fun b o hb hl=>?_,fun b o hb hl=>?_⟩
 ·rw[hn2];rcases hg b o hb with hb|⟨hb,_⟩
  ·exact H2.keys b o hb
  ·exact Lz9 (H.keys b o hb) hle
 ·rcases hg b o hb with hb|⟨hb,_⟩
  ·exact H2.okb b o hb
  ·rw[hold b o hb];exact H.okb b o hb
 ·rw[hn2];rcases hg b o hb with hb|⟨hb,hnone⟩
  ·exact H2.obj b o hb
  ·exact((H.obj b o hb).world fun hl=>H2.kept _ (hlt b o hb hl) (hrest b o hb hnone hl)).ext (H.okk b o hb) he hle
 ·have hcross:∀b b' o o',e2.t.get b=some o→h.t.get b'=some o'→e.t.get b'=none→live o→live o'→(φ2 b).blk=(φ2 b').blk→False:=by
   intro b b' o o' hb hb' hn hl hl' hh;rw[hold b' o' hb']at hh;rcases H2.own b o hb hl with h1|h1
   ·rw[hh]at h1;exact hrest b' o' hb' hn hl' h1
   ·have:=hlt b' o' hb' hl';omega
  rcases hg b o hb with hb|⟨hb,hnb⟩<;>rcases hg b' o' hb' with hb'|⟨hb',hnb'⟩
  ·exact H2.inj b b' o o' hb hb' hl hl' hh
  ·exact(hcross b b' o o' hb hb' hnb' hl hl' hh).elim
  ·exact(hcross b' b o' o hb' hb hnb hl' hl hh.symm).elim
  ·rw[hold b o hb,hold b' o' hb']at hh;exact H.inj b b' o o' hb hb' hl hl' hh
 ·rcases hg b o hb with hb|⟨hb,_⟩
  ·rcases H2.own b o hb hl with h1|h1
   ·exact hdesc _ h1
   ·exact .inr (YzA H.size h1)
  ·rw[hold b o hb];exact H.own b o hb hl
 ·rw[H2.kept k (Lz9 hk H.size) (fun hd=>by
   rcases hdesc k hd with h1|h1
   ·exact hS h1
   ·omega)]
  exact H.kept k hk hS
 ·rcases hg b o hb with hb|⟨hb,_⟩
  ·exact H2.flat b o hb hl
  ·rw[hold b o hb];exact H.flat b o hb hl
 ·rcases hg b o hb with hb|⟨hb,_⟩
  ·exact H2.ng b o hb hl
  ·rw[hold b o hb];exact H.ng b o hb hl
theorem Zd.of_get(H:Zd w0 S φ h w)(hg:∀b,e.t.get b=h.t.get b)(hn:e.n.toNat=h.n.toNat):Zd w0 S φ e w:=
 ⟨fun b o hb => by rw [hn]; exact H.keys b o (by rw [← hg]; exact hb), fun b o hb => H.okb b o (by rw [← hg]; exact hb), fun b o hb => by rw [hn]; exact H.obj b o (by rw [← hg]; exact hb),
  fun b b' o o' hb hb'=>H.inj b b' o o' (by rw[←hg];exact hb) (by rw[←hg];exact hb'),fun b o hb=>H.own b o (by rw[←hg];exact hb),H.os,H.tape,H.output,H.size,H.drawn,H.kept,H.glob,fun b o hb hl=>H.flat b o (by rw[←hg];exact hb) hl,fun b o hb hl=>H.ng b o (by rw[←hg];exact hb) hl⟩
noncomputable def zdD(φ:Phi)(n0 N:Nat):Phi:=fun b=>if n0≤b.toNat∧b.toNat<n0+N then⟨0,0,0,false,none⟩ else φ b
theorem zdC(φ:Phi)(n0 N:Nat):Ext n0 φ (zdD φ n0 N):=fun b hb=>by
 unfold zdD;rw[Yzb (by omega)]
theorem zm6(φ:Phi)(n0 N j:Nat)(hj:j<N):(zdD φ n0 N (nm n0 j)).ok=false:=by
 unfold zdD;rw[Yzd (by rw[yB];omega)]
theorem Zd.keep(H:Zd w0 S φ h w)(N:Nat):Zd w0 S (zdD φ h.n.toNat N) ⟨bn (Nat.add h.n.toNat N),h.t⟩ w:=by
 have he:=zdC φ h.n.toNat N;have hn:(bn (Nat.add h.n.toNat N)).toNat=h.n.toNat+N:=zK _;refine⟨fun b o hb=>?_,fun b o hb=>?_,fun b o hb=>?_,fun b b' o o' hb hb' hl hl' hh=>?_,fun b o hb hl=>?_,H.os,H.tape,H.output,H.size,H.drawn,H.kept,H.glob,fun b o hb hl=>?_,fun b o hb hl=>?_⟩
 ·show b.toNat<(bn (Nat.add h.n.toNat N)).toNat;rw[hn];have:=H.keys b o hb;omega
 ·rw[he b (H.keys b o hb)];exact H.okb b o hb
 ·show ORel _ (bn (Nat.add h.n.toNat N)).toNat w b o;rw[hn];exact(H.obj b o hb).ext (H.okk b o hb) he (by omega)
 ·rw[he b (H.keys b o hb),he b' (H.keys b' o' hb')]at hh;exact H.inj b b' o o' hb hb' hl hl' hh
 ·rw[he b (H.keys b o hb)];exact H.own b o hb hl
 ·rw[he b (H.keys b o hb)];exact H.flat b o hb hl
 ·rw[he b (H.keys b o hb)];exact H.ng b o hb hl
def OWf(φ:Phi)(n:Nat):Ze→Prop
 | .cells cs _=>∀c∈cs,wfC φ n c
 | .ro _ f=>∀i c,f i=some c→wfC φ n c
 | .tcells cs _ _=>∀c∈cs,wfC φ n c
 | .map es=>∀p∈es,wfS φ n p.1∧wfS φ n p.2
 | .loop _ _ _ _ tmps _ _ _ d=>(∀i v,tmps.get i=some v→wfA φ n v)∧okB φ n d
 |_=>True
theorem ORel.wf{n:Nat}{b:BN}{o:Ze}(h:ORel φ n w b o):OWf φ n o:=by
 cases o with
 |cells cs st=>obtain⟨_,_,_,_,_,h4⟩:=h;exact h4
 |ro x f=>obtain⟨_,_,_,_,_,h4⟩:=h;exact fun i c hc=>(h4 i c hc).2
 |tcells cs ty var=>obtain⟨_,_,_,_,_,_,h4⟩:=h;exact h4
 |map es=>obtain⟨_,_,_,_,h3,_⟩:=h;exact h3
 |loop st pend fn nt tmps ps assign body d=>obtain⟨_,_,_,h2,h3⟩:=h;exact⟨h2.wf,h3⟩
 |_=>trivial
theorem ORel.recast{φ1 φ2:Phi}{n n1 n2:Nat}{b b2:BN}{o:Ze}(h:ORel φ1 n1 w b o)(hw:OWf φ n o)(hb:φ2 b2=φ1 b)(e1:zxF n φ φ1)(e2:zxF n φ φ2)(hn2:n≤n2):ORel φ2 n2 w b2 o:=by
 have cc:∀c,wfC φ n c→zj φ2 c=zj φ1 c:=fun c hc=>(wm e2 hc).trans (wm e1 hc).symm;have cs':∀c,wfS φ n c→zI φ2 c=zI φ1 c:=fun c hc=>(vi e2 hc).trans (vi e1 hc).symm;have ca:∀c,wfA φ n c→zq φ2 c=zq φ1 c:=fun c hc=>(zaH e2 hc).trans (zaH e1 hc).symm;cases o with
 |cells cs st=>
  obtain⟨arr,e,h1,h2,h3,h4⟩:=h;refine⟨arr,e,by rw[hb];exact h1,fun i c hc=>?_,by rw[hb];exact h3,fun c hc=>wE e2 hn2 (hw c hc)⟩;rw[hb,cc c (hw c (Lz3 hc))];exact h2 i c hc
 |ro x f=>
  obtain⟨h0,arr,e,fr,h1,h2⟩:=h;refine⟨fun y hy=>by rw[hb];exact h0 y hy,arr,e,fr,by rw[hb];exact h1,fun i c hc=>?_⟩;obtain⟨k1,_⟩:=h2 i c hc;exact⟨by rw[hb,cc c (hw i c hc)];exact k1,wE e2 hn2 (hw i c hc)⟩
 |tcells cs ty var=>
  obtain⟨arr,h1,h2,h3,h4,h5,h6⟩:=h;refine⟨arr,by rw[hb];exact h1,fun i c hc=>?_,by rw[hb];exact h3,by rw[hb];exact h4,h5,fun c hc=>wE e2 hn2 (hw c hc)⟩;rw[cc c (hw c (Lz3 hc))];exact h2 i c hc
 |dead=>trivial
 |void=>trivial
 |map es=>
  obtain⟨ents,clock,h1,h2,h3,h4⟩:=h;refine⟨ents,clock,by rw[hb];exact h1,?_,fun p hp=>⟨uD e2 hn2 (hw p hp).1,uD e2 hn2 (hw p hp).2⟩,h4⟩;rw[h2];exact Yyh fun p hp=>by rw[cs' _ (hw p hp).1,cs' _ (hw p hp).2]
 |loop st pend fn nt tmps ps assign body d=>
  obtain⟨arr,f,h1,h2,h3⟩:=h;obtain⟨w1,w2'⟩:=hw;refine⟨arr,f,by rw[hb,(e2 d w2').trans (e1 d w2').symm];exact h1,⟨h2.size,fun i hi=>?_,h2.out,fun i v hv=>zii e2 hn2 (w1 i v hv)⟩,okB.extW e2 hn2 w2'⟩;rw[h2.get i hi];cases hg:tmps.get (bn i) with
  |none=>rfl
  |some v=>simp only[Yyg];rw[ca v (w1 _ _ hg)]
 |defer=>unfold ORel at *;rw[hb];exact h
theorem Zd.rename(H:Zd w0 S φ h w){o:Ze}{φ1:Phi}(H1:Zd w0 S φ1 (h.new o) w2)(he:Ext h.n.toNat φ φ1)(hw:OWf φ h.n.toNat o){b:BN}(hb:b.toNat<h.n.toNat)(hbad:(φ b).ok=false)(hnone:h.t.get b=none):
  Zd w0 S (upd φ b (φ1 h.n)) (h.put b o) w2∧zxF h.n.toNat φ (upd φ b (φ1 h.n)):=by
 have hnb:∀c o',h.t.get c=some o'→c≠b:=fun c o' hc hh=>by rw[hh,hnone]at hc;cases hc
 have hnn:∀c o',h.t.get c=some o'→c≠h.n:=fun c o' hc hh=>by have:=H.keys c o' hc;rw[hh]at this;omega
 have hupd:∀c,c≠b→upd φ b (φ1 h.n) c=φ c:=fun c hc=>by simp[upd,hc]
 have hget:∀c x,(h.put b o).t.get c=some x→(c=b∧x=o)∨(c≠b∧h.t.get c=some x):=by
  intro c x hc;simp only[Za.put,jH]at hc;split at hc
  ·rename_i e;exact .inl ⟨e,(Option.some.inj hc).symm⟩
  ·rename_i e;exact .inr ⟨e,hc⟩
 have hold:∀c x,h.t.get c=some x→(h.new o).t.get c=some x:=fun c x hc=>by
  simp only[Za.new];rw[zp _ _ _ _ (hnn c x hc)];exact hc
 have hnew:(h.new o).t.get h.n=some o:=by simp only[Za.new];exact zz _ _ _
 have e2:zxF h.n.toNat φ (upd φ b (φ1 h.n)):=fun c hc=>hupd c fun hh=>by have:=hc.2;rw[hh,hbad]at this;cases this
 refine⟨⟨fun c x hc=>?_,fun c x hc=>?_,fun c x hc=>?_,fun c c' x x' hc hc' hl hl' hh=>?_,fun c x hc hl=>?_,H1.os,H1.tape,H1.output,H1.size,H1.drawn,H1.kept,H1.glob,fun c x hc hl=>?_,fun c x hc hl=>?_⟩,e2⟩
 ·rcases hget c x hc with⟨rfl,_⟩|⟨_,hc'⟩
  ·exact hb
  ·exact H.keys c x hc'
 ·rcases hget c x hc with⟨rfl,_⟩|⟨hne,hc'⟩
  ·rw[zo];exact H1.okb _ _ hnew
  ·rw[hupd c hne];exact H.okb c x hc'
 ·rcases hget c x hc with⟨rfl,rfl⟩|⟨hne,hc'⟩
  ·exact(H1.obj _ _ hnew).recast hw (zo _ _ _) he.w e2 (LzB _)
  ·exact(H1.obj _ _ (hold c x hc')).recast (H.obj c x hc').wf ((hupd c hne).trans (he c (H.keys c x hc')).symm) he.w e2 (LzB _)
 ·rcases hget c x hc with⟨rfl,rfl⟩|⟨hne,hc1⟩<;>rcases hget c' x' hc' with⟨rfl,rfl⟩|⟨hne',hc2⟩
  ·rfl
  ·rw[zo,hupd c' hne',←he c' (H.keys c' x' hc2)]at hh;exact absurd (H1.inj _ _ _ _ hnew (hold c' x' hc2) hl hl' hh).symm (hnn c' x' hc2)
  ·rw[zo,hupd c hne,←he c (H.keys c x hc1)]at hh;exact absurd (H1.inj _ _ _ _ (hold c x hc1) hnew hl hl' hh) (hnn c x hc1)
  ·rw[hupd c hne,hupd c' hne']at hh;exact H.inj c c' x x' hc1 hc2 hl hl' hh
 ·rcases hget c x hc with⟨rfl,rfl⟩|⟨hne,hc'⟩
  ·rw[zo];exact H1.own _ _ hnew hl
  ·rw[hupd c hne];exact H.own c x hc' hl
 ·rcases hget c x hc with⟨rfl,rfl⟩|⟨hne,hc'⟩
  ·rw[zo];exact H1.flat _ _ hnew hl
  ·rw[hupd c hne];exact H.flat c x hc' hl
 ·rcases hget c x hc with⟨rfl,rfl⟩|⟨hne,hc'⟩
  ·rw[zo];exact H1.ng _ _ hnew hl
  ·rw[hupd c hne];exact H.ng c x hc' hl
end
end Go.CE
end
section
namespace Go.CE
open Go.RowKit
def y2(f:zxq):Prop:=∀call t h h' v h2,f call t h=some (v,h2)→Sbh h h'→f call t h'=some (v,h')
theorem zO:y2 (yi none):=fun _ _ _ _ _ _ e=>by cases e
theorem zC{f:zxq}(hf:y2 f):y2 (yi (some f)):=hf
theorem zmK{α:Type}{a:Option α}{g:α→Option zxq}(hg:∀x,y2 (yi (g x))):y2 (yi (a.bind g)):=by
 cases a with
 |none=>exact zO
 |some x=>exact hg x
theorem zh{α:Type}{a:Option α}{g:α→Option zxq}(hg:∀x,y2 (yi (g x))):y2 (yi (a >>= g)):=zmK hg
theorem zi3{α:Type}{a:Option α}{g:α→zxq}(hg:∀x,y2 (g x)):y2 (yi (a.map g)):=by
 cases a with
 |none=>exact zO
 |some x=>exact hg x
theorem xF{b:Bool}{x y:Option zxq}(hx:y2 (yi x))(hy:y2 (yi y)):y2 (yi (bif b then x else y)):=by
 cases b
 ·exact hy
 ·exact hx
section
variable {h h' h2:Za} {v:Zb}
theorem yc{c:Option Zc}(e:zw8 h c=some (v,h2)):zw8 h' c=some (v,h'):=by cases c<;>cases e;rfl
theorem yd{c:Option (List Zc)}(e:zxr h c=some (v,h2)):zxr h' c=some (v,h'):=by cases c<;>cases e;rfl
theorem yg{n:Option Nat}{cs:List Zc}{off:Nat}(e:part n cs off h=some (v,h2)):part n cs off h'=some (v,h'):=by
 cases n
 ·exact yc e
 ·exact yd e
theorem yV{b:Bool}{x y x' y':Res}(hx:x=some (v,h2)→x'=some (v,h'))(hy:y=some (v,h2)→y'=some (v,h'))(e:(bif b then x else y)=some (v,h2)):(bif b then x' else y')=some (v,h'):=by
 cases b
 ·exact hy e
 ·exact hx e
theorem zft{st:Nat}{lo hi mx:Option Opd}{t:Tr Zb}{b:BN}{off len cap:Nat}(e:xu st lo hi mx t h b off len cap=some (v,h2)):xu st lo hi mx t h' b off len cap=some (v,h'):=by
 unfold xu at e ⊢
 (repeat' split at e)<;>first|(cases e;done)|((try simp only[*]);exact yV (fun e=>by cases e;rfl) (fun e=>by cases e) e)
theorem zlA{st:Nat}{lo hi mx:Option Opd}{t:Tr Zb}{b:BN}{off len cap:Nat}(e:xj st lo hi mx t h b off len cap=some (v,h2)):xj st lo hi mx t h' b off len cap=some (v,h'):=by
 unfold xj at e ⊢
 (repeat' split at e)<;>first|(cases e;done)|(cases e;simp only[*];done)|((try simp only[*]);exact yV (fun e=>by cases e;rfl) (fun e=>by cases e) e)
theorem zkh{lo hi mx:Option Opd}{t:Tr Zb}(e:xL lo hi mx t h=some (v,h2)):xL lo hi mx t h'=some (v,h'):=by
 unfold xL at e ⊢;split at e
 ·cases e;simp only[*]
 ·cases e
end
theorem zht(x):y2 (zxJ x):=by
 intro call t h h' v h2 e _;unfold zxJ at e ⊢
 (repeat' split at e) <;> first
  |(cases e;done)
  |(cases e;simp only[*];done)
  |((try simp only[*]);first|exact yc e|exact yd e|exact yg e|exact yV (fun e=>by first|(cases e;rfl)|exact yc e|exact yd e|exact yg e) (fun e=>by cases e) e)
theorem zmB(x y z):y2 (jp x y z):=by
 intro call t h h' v h2 e _;unfold jp at e ⊢
 (repeat' split at e) <;> first
  |(cases e;done)
  |(cases e;simp only[*];done)
  |((try simp only[*]);first|exact yc e|exact yd e|exact yg e|exact yV (fun e=>by first|(cases e;rfl)|exact yc e|exact yd e|exact yg e) (fun e=>by cases e) e)
theorem zdt(zs ps):y2 (vI zs ps):=by
 intro call t h h' v h2 e _;exact yd e
theorem zkA(x):y2 (vC x):=by
 intro call t h h' v h2 e _;unfold vC at e ⊢
 (repeat' split at e) <;> first
  |(cases e;done)
  |(cases e;simp only[*];done)
  |((try simp only[*]);first|exact yc e|exact yd e|exact yg e|exact yV (fun e=>by first|(cases e;rfl)|exact yc e|exact yd e|exact yg e) (fun e=>by cases e) e)
theorem zpo(g x y):y2 (zbi g x y):=by
 intro call t h h' v h2 e _;unfold zbi at e ⊢
 (repeat' split at e) <;> first
  |(cases e;done)
  |(cases e;simp only[*];done)
  |((try simp only[*]);first|exact yc e|exact yd e|exact yg e|exact yV (fun e=>by first|(cases e;rfl)|exact yc e|exact yd e|exact yg e) (fun e=>by cases e) e)
theorem zdr(g x y):y2 (wA g x y):=by
 intro call t h h' v h2 e _;unfold wA at e ⊢
 (repeat' split at e) <;> first
  |(cases e;done)
  |(cases e;simp only[*];done)
  |((try simp only[*]);first|exact yc e|exact yd e|exact yg e|exact yV (fun e=>by first|(cases e;rfl)|exact yc e|exact yd e|exact yg e) (fun e=>by cases e) e)
theorem zpj(g x y):y2 (zb1 g x y):=by
 intro call t h h' v h2 e _;unfold zb1 at e ⊢
 (repeat' split at e) <;> first
  |(cases e;done)
  |(cases e;simp only[*];done)
  |((try simp only[*]);first|exact yc e|exact yd e|exact yg e|exact yV (fun e=>by first|(cases e;rfl)|exact yc e|exact yd e|exact yg e) (fun e=>by cases e) e)
theorem zmI(g n x y):y2 (zxK g n x y):=by
 intro call t h h' v h2 e _;unfold zxK at e ⊢
 (repeat' split at e) <;> first
  |(cases e;done)
  |(cases e;simp only[*];done)
  |((try simp only[*]);first|exact yc e|exact yd e|exact yg e|exact yV (fun e=>by first|(cases e;rfl)|exact yc e|exact yd e|exact yg e) (fun e=>by cases e) e)
theorem zfT(n x y):y2 (um n x y):=by
 intro call t h h' v h2 e _;unfold um at e ⊢
 (repeat' split at e) <;> first
  |(cases e;done)
  |(cases e;simp only[*];done)
  |((try simp only[*]);first|exact yc e|exact yd e|exact yg e|exact yV (fun e=>by first|(cases e;rfl)|exact yc e|exact yd e|exact yg e) (fun e=>by cases e) e)
theorem zfU(n x y):y2 (jq n x y):=by
 intro call t h h' v h2 e _;unfold jq at e ⊢
 (repeat' split at e) <;> first
  |(cases e;done)
  |(cases e;simp only[*];done)
  |((try simp only[*]);first|exact yc e|exact yd e|exact yg e|exact yV (fun e=>by first|(cases e;rfl)|exact yc e|exact yd e|exact yg e) (fun e=>by cases e) e)
theorem zpl(x):y2 (zb2 x):=by
 intro call t h h' v h2 e _;unfold zb2 at e ⊢
 (repeat' split at e) <;> first
  |(cases e;done)
  |(cases e;simp only[*];done)
  |((try simp only[*]);first|exact yc e|exact yd e|exact yg e|exact yV (fun e=>by first|(cases e;rfl)|exact yc e|exact yd e|exact yg e) (fun e=>by cases e) e)
theorem zpm(x):y2 (zb3 x):=by
 intro call t h h' v h2 e _;unfold zb3 at e ⊢
 (repeat' split at e) <;> first
  |(cases e;done)
  |(cases e;simp only[*];done)
  |((try simp only[*]);first|exact yc e|exact yd e|exact yg e|exact yV (fun e=>by first|(cases e;rfl)|exact yc e|exact yd e|exact yg e) (fun e=>by cases e) e)
theorem zmJ(k x):y2 (jw k x):=by
 intro call t h h' v h2 e _;unfold jw at e ⊢
 (repeat' split at e) <;> first
  |(cases e;done)
  |(cases e;simp only[*];done)
  |((try simp only[*]);first|exact yc e|exact yd e|exact yg e|exact yV (fun e=>by first|(cases e;rfl)|exact yc e|exact yd e|exact yg e) (fun e=>by cases e) e)
theorem zmC(f x):y2 (jr f x):=by
 intro call t h h' v h2 e _;unfold jr at e ⊢
 (repeat' split at e) <;> first
  |(cases e;done)
  |(cases e;simp only[*];done)
  |((try simp only[*]);first|exact yc e|exact yd e|exact yg e|exact yV (fun e=>by first|(cases e;rfl)|exact yc e|exact yd e|exact yg e) (fun e=>by cases e) e)
theorem zhr(x lo hi):y2 (xM x lo hi):=by
 intro call t h h' v h2 e _;unfold xM at e ⊢
 (repeat' split at e) <;> first
  |(cases e;done)
  |(cases e;simp only[*];done)
  |((try simp only[*]);first|exact yc e|exact yd e|exact yg e|exact yV (fun e=>by first|(cases e;rfl)|exact yc e|exact yd e|exact yg e) (fun e=>by cases e) e)
theorem zmH(x o):y2 (jv x o):=by
 intro call t h h' v h2 e _;unfold jv at e ⊢
 (repeat' split at e) <;> first
  |(cases e;done)
  |(cases e;simp only[*];done)
  |((try simp only[*]);first|exact yc e|exact yd e|exact yg e|exact yV (fun e=>by first|(cases e;rfl)|exact yc e|exact yd e|exact yg e) (fun e=>by cases e) e)
theorem zkE(x o n):y2 (vH x o n):=by
 intro call t h h' v h2 e _;unfold vH at e ⊢
 (repeat' split at e) <;> first
  |(cases e;done)
  |(cases e;simp only[*];done)
  |((try simp only[*]);first|exact yc e|exact yd e|exact yg e|exact yV (fun e=>by first|(cases e;rfl)|exact yc e|exact yd e|exact yg e) (fun e=>by cases e) e)
theorem zpn(st x i):y2 (zb6 st x i):=by
 intro call t h h' v h2 e _;unfold zb6 at e ⊢
 (repeat' split at e) <;> first
  |(cases e;done)
  |(cases e;simp only[*];done)
  |((try simp only[*]);first|exact yc e|exact yd e|exact yg e|exact yV (fun e=>by first|(cases e;rfl)|exact yc e|exact yd e|exact yg e) (fun e=>by cases e) e)
theorem zkC(l st x i):y2 (vF l st x i):=by
 intro call t h h' v h2 e _;unfold vF at e ⊢
 (repeat' split at e) <;> first
  |(cases e;done)
  |(cases e;simp only[*];done)
  |((try simp only[*]);first|exact yc e|exact yd e|exact yg e|exact yV (fun e=>by first|(cases e;rfl)|exact yc e|exact yd e|exact yg e) (fun e=>by cases e) e)
theorem zkD(l st n x i):y2 (vG l st n x i):=by
 intro call t h h' v h2 e _;unfold vG at e ⊢
 (repeat' split at e) <;> first
  |(cases e;done)
  |(cases e;simp only[*];done)
  |((try simp only[*]);first|exact yc e|exact yd e|exact yg e|exact yV (fun e=>by first|(cases e;rfl)|exact yc e|exact yd e|exact yg e) (fun e=>by cases e) e)
theorem zkB(x i):y2 (vE x i):=by
 intro call t h h' v h2 e _;unfold vE at e ⊢
 (repeat' split at e) <;> first
  |(cases e;done)
  |(cases e;simp only[*];done)
  |((try simp only[*]);first|exact yc e|exact yd e|exact yg e|exact yV (fun e=>by first|(cases e;rfl)|exact yc e|exact yd e|exact yg e) (fun e=>by cases e) e)
theorem zfV(x i):y2 (xE x i):=by
 intro call t h h' v h2 e _;unfold xE at e ⊢
 (repeat' split at e) <;> first
  |(cases e;done)
  |(cases e;simp only[*];done)
  |((try simp only[*]);first|exact yc e|exact yd e|exact yg e|exact yV (fun e=>by first|(cases e;rfl)|exact yc e|exact yd e|exact yg e) (fun e=>by cases e) e)
theorem zmE(x):y2 (jt x):=by
 intro call t h h' v h2 e _;unfold jt at e ⊢
 (repeat' split at e) <;> first
  |(cases e;done)
  |(cases e;simp only[*];done)
  |((try simp only[*]);first|exact yc e|exact yd e|exact yg e|exact yV (fun e=>by first|(cases e;rfl)|exact yc e|exact yd e|exact yg e) (fun e=>by cases e) e)
theorem zmG(x):y2 (ju x):=by
 intro call t h h' v h2 e _;unfold ju at e ⊢
 (repeat' split at e) <;> first
  |(cases e;done)
  |(cases e;simp only[*];done)
  |((try simp only[*]);first|exact yc e|exact yd e|exact yg e|exact yV (fun e=>by first|(cases e;rfl)|exact yc e|exact yd e|exact yg e) (fun e=>by cases e) e)
theorem zcc(b x xs):y2 (xe b x xs):=by
 intro call t h h' v h2 e _;unfold xe at e ⊢
 (repeat' split at e) <;> first
  |(cases e;done)
  |(cases e;simp only[*];done)
  |((try simp only[*]);first|exact yc e|exact yd e|exact yg e|exact yV (fun e=>by first|(cases e;rfl)|exact yc e|exact yd e|exact yg e) (fun e=>by cases e) e)
theorem zkz(st x lo hi mx):y2 (vA st x lo hi mx):=by
 intro call t h h' v h2 e _;unfold vA at e ⊢;split at e
 ·(try simp only[*]);exact zkh e
 ·(try simp only[*]);exact yV zft zlA e
 ·cases e
theorem zds(n x y):y2 (vB n x y):=by
 intro call t h h' v h2 e _;unfold vB at e ⊢
 (repeat' split at e)<;>first|(cases e;done)|(cases e;(try simp only[*]);done)|(cases e;rfl)
theorem zhs(l st x lo hi mx):y2 (w6 l st x lo hi mx):=by
 intro call t h h' v h2 e _;unfold w6 at e ⊢;split at e
 ·(try simp only[*]);exact zft e
 ·cases e
theorem zpk(x):y2 (zew x):=by
 intro call t h h' v h2 e hs;unfold zew at e ⊢;split at e
 ·cases e;rfl
 ·rename_i b o hx;cases hb:h.t.get b with
  |none=>rw[hb]at e;cases e
  |some ob=>
   rw[hb]at e;rw[hs b ob hb];cases ob with
   |tcells cs ty var=>exact yV (fun e=>by cases e;rfl) (fun e=>by cases e) e
   |_=>cases e
 ·cases e
theorem zpi(u n x):y2 (zev u n x):=by
 intro call t h h' v h2 e hs;unfold zev at e ⊢;split at e
 ·cases e;rfl
 ·rename_i b o hx;refine yV (fun e=>?_) (fun e=>by cases e) e;cases hb:h.t.get b with
  |none=>rw[hb]at e;cases e
  |some ob=>
   rw[hb]at e;rw[hs b ob hb];cases ob with
   |tcells cs ty var=>exact yV (fun e=>by cases e;rfl) (fun e=>by cases e) e
   |_=>cases e
 ·cases e
theorem zpy{n:Option Nat}{h h' h2:Za}{off:Nat}{o:Ze}{v:Zb}(e:loadAt n h off (some o)=some (v,h2)):loadAt n h' off (some o)=some (v,h'):=by
 cases o with
 |cells cs st=>exact yg (e:part n cs off h=some (v,h2))
 |tcells cs ty var=>exact yg (e:part n cs off h=some (v,h2))
 |ro x f=>
  have e:zfJ n f off h=some (v,h2):=e;show zfJ n f off h'=some (v,h');unfold zfJ at e ⊢;cases n with
  |none=>exact yc e
  |some n=>exact yd e
 |_=>cases e
theorem ziD{h h' h2:Za}{c:Option (List Zc)}{v:Zb}(e:zxc h c=some (v,h2)):zxc h' c=some (v,h'):=by
 unfold zxc at e ⊢
 (repeat' split at e)<;>first|(cases e;done)|(cases e;rfl)
theorem zpq(x):y2 (qI x):=by
 intro call t h h' v h2 e hs;unfold qI at e ⊢;split at e
 ·cases e;rfl
 ·rename_i b off len cap ex hx;cases hb:h.t.get b with
  |none=>rw[hb]at e;cases e
  |some o=>
   rw[hb]at e;rw[hs b o hb];cases o with
   |cells cs st=>exact ziD e
   |ro x f=>exact ziD e
   |tcells cs ty var=>exact ziD e
   |void=>exact ziD e
   |_=>cases e
 ·cases e
theorem zmD(n x):y2 (js n x):=by
 intro call t h h' v h2 e hs;unfold js at e ⊢;split at e
 ·rename_i b off hx
  try simp only[hx]
  cases hb:h.t.get b with
  |none=>rw[hb]at e;cases e
  |some o=>rw[hb]at e;rw[hs b o hb];exact zpy e
 ·exact yV yc (fun e=>by cases e) e
 ·cases e
theorem zrX{h h':Za}(hs:Sbh h h'){m:Zb}{es:List (SVal×SVal)}(e:mapOf h m=some es):mapOf h' m=some es:=by
 unfold mapOf at e ⊢;split at e
 ·exact e
 ·rename_i b;split at e
  ·rename_i es' hb;rw[hs b _ hb];exact e
  ·cases e
 ·cases e
theorem zhu(q z ok m k):y2 (wH q z ok m k):=by
 intro call t h h' v h2 e hs;unfold wH at e ⊢;split at e
 ·rename_i es k' hm hk;rw[zrX hs hm,hk];simp only;refine yV (fun e=>by cases e) (fun e=>?_) e;split at e
  ·rename_i r hr;cases e;simp only
  ·cases e
 ·cases e
theorem zmF(x):y2 (kK x):=by
 intro call t h h' v h2 e hs;unfold kK at e ⊢;split at e
 ·cases e;simp only[*]
 ·rename_i b hx
  try rw[hx]
  try simp only
  split at e
  ·rename_i es hb;rw[hs b _ hb];cases e;rfl
  ·cases e
 ·cases e
theorem zpp(P:Program)(o:Op)(hq:yF P o=true):y2 (cOp P o):=by
 cases o with
 |move x=>exact zi3 zht
 |assign x=>exact zi3 zht
 |pick c x y=>exact zh fun _=>zh fun _=>zh fun _=>zC (zmB _ _ _)
 |build t parts=>
  unfold cOp;simp only;split
  ·exact xF (zh fun _=>zC (zdt _ _)) zO
  ·split
   ·exact zh fun _=>zC (zdt _ _)
   ·exact zO
  ·exact zO
 |load t x=>exact zh fun _=>zh fun _=>zC (zmD _ _)
 |nilCheck x=>exact zh fun _=>zC (zkA _)
 |binOp op t x y u=>
  unfold cOp;simp only;split
  ·split
   ·exact zh fun _=>zh fun _=>zC (zdr _ _ _)
   ·exact zh fun _=>zh fun _=>zC (zdr _ _ _)
   ·exact zh fun _=>zh fun _=>zC (zpo _ _ _)
  ·exact zh fun _=>zh fun _=>zC (zpj _ _ _)
  ·split
   ·exact zh fun _=>zh fun _=>zC (zfT _ _ _)
   ·exact zh fun _=>zh fun _=>zC (zfT _ _ _)
   ·exact zO
  ·refine xF ?_ zO;split
   ·exact zh fun _=>zh fun _=>zC (zds _ _ _)
   ·exact zh fun _=>zh fun _=>zC (zds _ _ _)
   ·exact zO
  ·split
   ·exact zh fun _=>zh fun _=>zC (zfU _ _ _)
   ·exact zh fun _=>zh fun _=>zC (zfU _ _ _)
   ·exact zO
  ·refine xF zO ?_;split
   ·exact zh fun _=>zh fun _=>zh fun _=>zC (zmI _ _ _ _)
   ·exact zh fun _=>zh fun _=>zh fun _=>zC (zmI _ _ _ _)
   ·exact zO
  ·exact zO
 |unOp u t x=>
  cases u with
  |not=>exact zh fun _=>zC (zpl _)
  |neg=>exact zh fun _=>zC (zpm _)
  |_=>exact zO
 |convert a b x=>
  unfold cOp;simp only;split
  ·exact zh fun _=>zC (zmJ _ _)
  ·rename_i h1 h2;simp only[yF,zng,zeJ,h1,h2]at hq;cases hq
  ·exact xF (zh fun _=>zC (zpq _)) zO
  ·exact xF (zh fun _=>zC (zpk _)) zO
  ·exact xF (zh fun _=>zC (zpi _ _ _)) zO
  ·exact zO
 |makeFunc f first captured=>
  cases f with
  |func f=>exact xF (zh fun _=>zC (zmC _ _)) zO
  |_=>exact zO
 |slice t x lo hi mx=>
  unfold cOp;simp only;split
  ·split
   ·exact xF zO (zh fun _=>zh fun _=>zh fun _=>zh fun _=>zC (zkz _ _ _ _ _))
   ·exact zO
  ·split
   ·exact xF zO (zh fun _=>zh fun _=>zh fun _=>zh fun _=>zC (zhs _ _ _ _ _ _))
   ·exact zO
  ·exact xF zO (zh fun _=>zh fun _=>zh fun _=>zC (zhr _ _ _))
  ·exact zO
 |fieldAddr t x f=>
  unfold cOp;simp only;split
  ·split
   ·split
    ·exact xF zO (zh fun _=>zC (zmH _ _))
    ·exact zO
   ·exact zO
  ·exact zO
 |field t x f=>
  unfold cOp;simp only;split
  ·split
   ·exact zh fun _=>zh fun _=>zC (zkE _ _ _)
   ·exact zO
  ·exact zO
 |indexAddr t x i=>
  unfold cOp;simp only;split
  ·split
   ·exact zh fun _=>zh fun _=>zC (zpn _ _ _)
   ·exact zO
  ·split
   ·exact zh fun _=>zh fun _=>zC (zkC _ _ _ _)
   ·exact zO
  ·exact zO
 |index t x i=>
  unfold cOp;simp only;split
  ·split
   ·exact zh fun _=>zh fun _=>zh fun _=>zC (zkD _ _ _ _ _)
   ·exact zO
  ·exact zh fun _=>zh fun _=>zC (zkB _ _)
  ·exact zO
 |lookup t m k ok=>
  unfold cOp;simp only;split
  ·exact zh fun _=>zh fun _=>zh fun _=>zh fun _=>zC (zhu _ _ _ _ _)
  ·exact zO
 |extract x i=>exact zh fun _=>zC (zfV _ _)
 |call c=>
  obtain⟨callee,args,ts⟩:=c;cases callee with
  |builtin b=>
   cases b with
   |len=>
    unfold cOp;simp only;split
    ·split
     ·exact zh fun _=>zC (zmE _)
     ·exact zh fun _=>zC (zmG _)
     ·exact zh fun _=>zC (zmF _)
     ·exact zC (zht _)
     ·exact zO
    ·exact zO
   |max=>
    unfold cOp;simp only;split
    ·exact zC (zcc _ _ _)
    ·exact zO
   |min=>
    unfold cOp;simp only;split
    ·exact zC (zcc _ _ _)
    ·exact zO
   |_=>cases hq
  |_=>cases hq
 |_=>cases hq
section
variable {P:Program} {t:Tr Zb} {call:zg}
def zs5(f:zxq)(call:zg)(t:Tr Zb)(nt:Nat):Prop:=∃(obj:Ze) (vf:BN→Zc),(∀hh:Za,f call t hh=some (.s (.one (vf hh.n)),hh.new obj))∧
 (∀(φ φ':Phi) b b',φ b=φ' b'→zj φ (vf b)=zj φ' (vf b'))∧(∀φ n b,okB φ n b→wfC φ n (vf b))∧∀φ n arr,Zi φ nt n t arr→OWf φ n obj
theorem j7(hh:Za)(o:Ze)(g:BN→Zc):zxe hh o g=some (.s (.one (g hh.n)),hh.new o):=by cases hh;rfl
theorem zbM(φ φ':Phi)(b b':BN)(h:φ b=φ' b'):zj φ (.ptr b 0)=zj φ' (.ptr b' 0):=by simp only[zj,adr,h]
theorem zfv(l c:Nat)(φ φ':Phi)(b b':BN)(h:φ b=φ' b'):zj φ (.slc b 0 l c true)=zj φ' (.slc b' 0 l c true):=by simp only[zj,adr,h,Yza]
theorem zbZ{α:Type}{a:Option α}{g:α→Option zxq}{h h2:Za}{v:Zb}(e:yi (a >>= g) call t h=some (v,h2)):∃x,a=some x∧yi (g x) call t h=some (v,h2):=by
 cases a with
 |none=>cases e
 |some x=>exact⟨x,rfl,e⟩
theorem zi4{nt:Nat}{o:Op}(hm:zw2 o=true){h h2:Za}{v:Zb}(e:cOp P o call t h=some (v,h2)):zs5 (cOp P o) call t nt:=by
 cases o with
 |alloc ty=>
  cases hz:yl P ty with
  |none=>simp only[cOp,hz]at e;cases hb:qN P ty<;>rw[hb]at e<;>cases e
  |some z=>
   cases hb:qN P ty with
   |false=>
    refine⟨.cells z.cells 0,fun b=>.ptr b 0,fun hh=>?_,zbM,fun φ n b hb=>hb,fun φ n arr _=>?_⟩
    ·simp only[cOp,hz,hb];show zb7 z.cells call t hh=_;exact j7 _ _ _
    ·obtain⟨_,_,_,_,_,hwz⟩:=yW (φ:=φ) hz;exact fun c hc=>xd (YzC _) (hwz c hc)
   |true=>
    refine⟨.tcells z.cells ty true,fun b=>.ptr b 0,fun hh=>?_,zbM,fun φ n b hb=>hb,fun φ n arr _=>?_⟩
    ·simp only[cOp,hz,hb];show zbt ty z.cells call t hh=_;exact j7 _ _ _
    ·obtain⟨_,_,_,_,_,hwz⟩:=yW (φ:=φ) hz;exact fun c hc=>xd (YzC _) (hwz c hc)
 |box ty x=>
  cases hx:zwM x with
  |none=>simp only[cOp,hx]at e;cases e
  |some f=>
   simp only[cOp,hx]at e;have e:zcV f call t h=some (v,h2):=e;unfold zcV at e;split at e
   ·rename_i u hu;refine⟨.cells u.cells 0,fun b=>.ptr b 0,fun hh=>?_,zbM,fun φ n b hb=>hb,fun φ n arr T=>?_⟩
    ·simp only[cOp,hx];show zcV f call t hh=_;unfold zcV;rw[hu];exact j7 _ _ _
    ·have:=(zn (a:=⟨arr,[]⟩) T hx).2;rw[hu]at this;exact vq this
   ·cases e
 |buildSlice ty len parts=>
  simp only[cOp]at e;split at e
  ·rename_i el hu;split at e
   ·rename_i i hi;cases hle:Nat.ble (len*i.size) 16777216 with
    |false=>rw[hle]at e;cases e
    |true=>
     rw[hle]at e;simp only[Yza]at e;split at e
     ·rename_i zs hzs;cases hq:Nat.beq (len*i.size) 0||Nat.beq zs.length i.size with
      |false=>rw[hq]at e;cases e
      |true=>
       rw[hq]at e;simp only[Yza]at e;obtain⟨r,hr,e⟩:=zbZ e;have e:wI i.size len (zwX zs len) r call t h=some (v,h2):=e;unfold wI at e;split at e
       ·rename_i cs hc;refine⟨.cells cs i.size,fun b=>.slc b 0 len len true,fun hh=>?_,zfv len len,fun φ n b hb=>⟨hb,(fun hh=>by cases hh),fun _=>LzB _⟩,fun φ n arr T=>?_⟩
        ·simp only[cOp,hu,hi,hle,Yza,hzs,hq,hr];show wI i.size len (zwX zs len) r call t hh=_;unfold wI;rw[hc];exact j7 _ _ _
        ·have T':Zi φ nt (Za.n ⟨bn n,.nil⟩).toNat t (Act.tmps ⟨arr,[]⟩):=by
          show Zi φ nt (bn n).toNat t arr;rw[zK];exact T
         obtain⟨hp,hw⟩:=xV T' i.size hr;have hwz:∀c∈zwX zs len,wfC φ (Za.n ⟨bn n,.nil⟩).toNat c:=by
          refine kS (fun c hc=>?_) len;cases h0:Nat.beq (len*i.size) 0 with
          |true=>rw[h0]at hzs;cases hzs;cases hc
          |false=>
           rw[h0]at hzs;simp only[Yzc]at hzs;cases hz:yl P el with
           |none=>rw[hz]at hzs;cases hzs
           |some z=>
            rw[hz]at hzs;cases hzs;obtain⟨_,_,_,_,_,hwz⟩:=yW (φ:=φ) hz;exact xd (YzC _) (hwz c hc)
         have hf:=(uw hp hwz hw hc).2.1;intro c hc;have:=hf c hc
         rwa [show (Za.n ⟨bn n,.nil⟩).toNat=n from zK n]at this
       ·cases e
     ·cases e
   ·cases e
  ·cases e
 |makeMap ty r=>
  cases r with
  |some r=>cases e
  |none=>
   refine⟨.map [],fun b=>.map b,fun hh=>?_,fun φ φ' b b' h=>by simp only[zj,h],fun φ n b hb=>hb,fun φ n arr _ p hp=>by cases hp⟩;exact j7 _ _ _
 |makeSlice ty l c=>
  simp only[cOp]at e;split at e
  ·rename_i el hu;split at e
   ·rename_i i z hi hz;cases hq:Nat.beq z.cells.length i.size && !Nat.beq i.size 0 with
    |false=>rw[hq]at e;cases e
    |true=>
     rw[hq]at e;simp only[Yza]at e;obtain⟨fl,hl,e⟩:=zbZ e;obtain⟨fc,hc,e⟩:=zbZ e;have e:xU i.size z.cells i.bytes fl fc call t h=some (v,h2):=e;unfold xU at e;split at e
     ·rename_i x y hx hy;cases hb:Nat.ble x y&&Nat.ble y 1073741824&&Nat.ble (i.bytes*y) 281474976710656 with
      |false=>rw[hb]at e;cases e
      |true=>
       obtain⟨hb1,_⟩:=zwY hb;obtain⟨hb1,_⟩:=zwY hb1;refine⟨.cells (zwX z.cells y) i.size,fun b=>.slc b 0 x y true,fun hh=>?_,zfv x y,fun φ n b hb=>⟨hb,(fun hh=>by cases hh),fun _=>yb hb1⟩,fun φ n arr T=>?_⟩
       ·simp only[cOp,hu,hi,hz,hq,Yza,hl,hc];show xU i.size z.cells i.bytes fl fc call t hh=_;unfold xU;rw[hx,hy];simp only[hb,Yza];exact j7 _ _ _
       ·obtain⟨_,_,_,_,_,hwz⟩:=yW (φ:=φ) hz;exact kS (fun c hc=>xd (YzC _) (hwz c hc)) y
     ·cases e
   ·cases e
  ·cases e
 |_=>cases hm
end
end Go.CE
end
noncomputable section
namespace Go.CE
open Go.RowKit
def gdv(g:GE):Option BN×Zb:=(g.d.rop.dst,g.v)
def hAt:Za→List GE→Nat→Za
 |h,_,0=>h
 |h,[],_+1=>h
 |_,g::l,j+1=>hAt g.ha l j
theorem zeQ:∀(l:List GE) (h:Za) (j:Nat) (g:GE),l[j]? = some g→hAt h l (j+1)=g.ha
 | [],_,j,g,hj=>by simp at hj
 |g0::l,h,0,g,hj=>by simp only[Yzg,Option.some.injEq]at hj;subst hj;cases l<;>rfl
 |g0::l,h,j+1,g,hj=>by simp only[Yzl]at hj;exact zeQ l g0.ha j g hj
theorem zjw(call:zg)(n0:Nat):∀(ds:List Zp) (i:Nat) (t:Tr Zb) (h:Za) (l:List GE) (t2:Tr Zb) (h2:Za),evG call n0 i ds t h=some (l,t2,h2)→
  l.map (·.d)=ds∧t2=frL (fun _=>true) 0 (l.map gdv) t∧h2=hAt h l l.length∧
  ∀j g,l[j]? = some g→g.tr=uG (frL (fun k=>decide (k<j)) 0 (l.map gdv) t) g.d.looks∧g.hb=hAt h l j∧stepG call n0 (i+j) g.d g.tr g.hb=some (g.v,g.ha)
 | [],i,t,h,l,t2,h2,e=>by
  cases e;exact⟨rfl,rfl,rfl,fun j g hj=>by simp at hj⟩
 |d::ds,i,t,h,l,t2,h2,e=>by
  unfold evG at e;split at e
  ·rename_i v0 h0 hv0;cases hr:evG call n0 (Nat.succ i) ds (zxg t v0 d.rop.dst) h0 with
   |none=>rw[hr]at e;cases e
   |some p=>
    obtain⟨l',t',h'⟩:=p;rw[hr]at e;simp only[zuR,Option.some.injEq,Prod.mk.injEq]at e;obtain⟨rfl,rfl,rfl⟩:=e;obtain⟨g1,g2,g3,g4⟩:=zjw call n0 ds _ _ _ l' _ _ hr;have hfr:∀(L:Nat→Bool),frL L 0 (((⟨d,uG t d.looks,v0,h,h0⟩:GE)::l').map gdv) t=frL (fun k=>L (k+1)) 0 (l'.map gdv) (bif L 0 then zxg t v0 d.rop.dst else t):=by
     intro L;simp only[Yzp];show frL L 0 ((d.rop.dst,v0)::l'.map gdv) t=_;rw[zjo,zct]
    refine⟨by simp[g1],by rw[hfr,g2];rfl,g3,?_⟩;intro j g hj;cases j with
    |zero=>
     simp only[Yzg,Option.some.injEq]at hj;subst hj;refine⟨?_,rfl,hv0⟩;rw[hfr];simp only[YyE,decide_false,Yzc]
     congr 1
     have:∀(r:List (Option BN×Zb)) (i:Nat) (t:Tr Zb),frL (fun _=>false) i r t=t:=by
      intro r
      induction r with
      |nil=>intro i t;rfl
      |cons p r ih=>intro i t;obtain⟨d,v⟩:=p;unfold frL;exact ih _ _
     exact(this _ _ _).symm
    |succ j=>
     simp only[Yzl]at hj;obtain⟨k1,k2,k3⟩:=g4 j g hj;refine⟨?_,k2,?_⟩
     ·rw[hfr,k1];simp
     ·rw[show i+(j+1)=Nat.succ i+j by omega];exact k3
  ·cases e
theorem zbB(es:List Bool):∀i,ce (fun _=>false) i es=0:=by
 induction es with
 |nil=>intro i;rfl
 |cons e es ih=>intro i;unfold ce;simp[ih]
theorem znP(L:Nat→Bool)(e:Bool)(es:List Bool):ce L 0 (e::es)=(bif L 0&&e then 1 else 0)+ce (fun k=>L (k+1)) 0 es:=by
 rw[znQ,ze9];cases (L 0&&e)<;>simp<;>omega
theorem zhE:∀(l:List GE) (j:Nat) (g:GE),l[j]? = some g→g.d.eff=true→(hsG l)[ce (fun k=>decide (k<j)) 0 (l.map (·.d.eff))]? = some g.ha
 | [],j,g,hj,_=>by simp at hj
 |g0::l,0,g,hj,he=>by
  simp only[Yzg,Option.some.injEq]at hj;subst hj;have hz:ce (fun k=>decide (k<0)) 0 ((g0::l).map (·.d.eff))=0:=by
   rw[show (fun k=>decide (k<0))=(fun _:Nat=>false) from funext fun k=>by simp,zbB]
  rw[hz];unfold hsG;rw[he];rfl
 |g0::l,j+1,g,hj,he=>by
  simp only[Yzl]at hj;have ih:=zhE l j g hj he;simp only[Yzp];rw[znP];simp only[Nat.zero_lt_succ,decide_true,Yye,Nat.succ_lt_succ_iff];unfold hsG;cases h0:g0.d.eff with
  |true=>simp only[Yza];rw[YyN 1,Yzl];exact ih
  |false=>simp only[Yzc,Yze];exact ih
theorem zpF(g:GE)(l:List GE):hsG (g::l)=bif g.d.eff then g.ha::hsG l else hsG l:=rfl
def obG(n0:Nat)(l:List GE)(m:Nat):Option Ze:=
 match l[m]? with
 |some g=>bif g.d.mkb then g.ha.t.get (nm n0 m) else none
 |none=>none
def cmG(l:List GE)(m:Nat):Nat:=ce (fun k=>decide (k<m)) 0 (l.map (·.d.eff))
theorem ze5(l:List GE):cmG l 0=0:=by
 unfold cmG;rw[show (fun k=>decide (k<0))=(fun _:Nat=>false) from funext fun k=>by simp,zbB]
theorem ze6(g:GE)(l:List GE)(m:Nat):cmG (g::l) (m+1)=(bif g.d.eff then 1 else 0)+cmG l m:=by
 unfold cmG;simp only[Yzp];rw[znP];simp
theorem zez{n0:Nat}:∀(l:List GE) (c i:Nat) (x:Nat×Nat×Ze),(∀g∈l,g.d.mkb=true→g.d.eff=false)→x∈zxC n0 c i l→
  ∃m,x.2.1=i+m∧(∃g,l[m]? = some g∧g.d.mkb=true∧g.ha.t.get (nm n0 (i+m))=some x.2.2)∧x.1=c+cmG l m
 | [],c,i,x,_,hx=>by cases hx
 |g::l,c,i,x,hall,hx=>by
  have step:∀c',x∈zxC n0 c' (Nat.succ i) l→c'=c+(bif g.d.eff then 1 else 0)→∃m,x.2.1=i+m∧(∃g',(g::l)[m]? = some g'∧g'.d.mkb=true∧g'.ha.t.get (nm n0 (i+m))=some x.2.2)∧x.1=c+cmG (g::l) m:=by
   intro c' hx' hc;obtain⟨m,k1,⟨g',k2,k3,k4⟩,k5⟩:=zez l c' (Nat.succ i) x (fun g' hg'=>hall g' (by simp[hg'])) hx';refine⟨m+1,by omega,⟨g',by simpa using k2,k3,by rw[show i+(m+1)=Nat.succ i+m by omega];exact k4⟩,?_⟩;rw[k5,ze6,hc];omega
  unfold zxC at hx;cases hm:g.d.mkb with
  |false=>
   rw[hm]at hx;simp only[Yzc]at hx;refine step _ hx ?_;cases g.d.eff<;>rfl
  |true=>
   have he:=hall g (by simp) hm;rw[hm]at hx;simp only[Yza]at hx;split at hx
   ·rename_i o ho;rcases YzO.1 hx with rfl|hx
    ·exact⟨0,rfl,⟨g,rfl,hm,ho⟩,by rw[ze5];rfl⟩
    ·exact step c hx (by rw[he];rfl)
   ·exact step c hx (by rw[he];rfl)
theorem zcr{n0 k:Nat}:∀(l:List (Nat×Nat×Ze)) (t:Tr Ze) (b:BN),(qc n0 k l t).get b=t.get b∨∃x∈l,k≤x.1∧b=nm n0 x.2.1∧(qc n0 k l t).get b=some x.2.2
 | [],t,b=>.inl rfl
 |(c,j,o)::l,t,b=>by
  unfold qc;rcases zcr l (bif Nat.ble k c then t.set (bn (Nat.add n0 j)) o else t) b with h|⟨x,hx,h1,h2,h3⟩
  ·rw[h];cases hk:Nat.ble k c with
   |false=>exact .inl rfl
   |true=>
    simp only[Yza];by_cases hb:b=bn (Nat.add n0 j)
    ·subst hb;exact .inr ⟨(c,j,o),by simp,yb hk,rfl,zz _ _ _⟩
    ·exact .inl (zp _ _ _ _ hb)
  ·exact .inr ⟨x,by simp[hx],h1,h2,h3⟩
end Go.CE
end
section
namespace Go.CE
open Go.RowKit
theorem zeP:∀(l:List GE) (k:Nat) (h:Za),(hsG l)[k]? = some h→∃j g,l[j]? = some g∧g.d.eff=true∧cmG l j=k∧g.ha=h
 | [],k,h,e=>by simp[hsG]at e
 |g::l,k,h,e=>by
  rw[zpF]at e;cases he:g.d.eff with
  |false=>
   rw[he]at e;obtain⟨j,g',k1,k2,k3,k4⟩:=zeP l k h e;exact⟨j+1,g',by simpa using k1,k2,by rw[ze6,he,k3];simp,k4⟩
  |true=>
   rw[he]at e;simp only[Yza]at e;cases k with
   |zero=>simp only[Yzg,Option.some.injEq]at e;exact⟨0,g,rfl,he,ze5 _,e⟩
   |succ k=>
    simp only[Yzl]at e;obtain⟨j,g',k1,k2,k3,k4⟩:=zeP l k h e;exact⟨j+1,g',by simpa using k1,k2,by rw[ze6,he,k3];simp;omega,k4⟩
theorem vJ{bs:List Nat}{i:Nat}:∀(os:List Oper) (off j':Nat),j'∈yG bs i off os↔∃j o,os[j]? = some o∧j'=off+j∧(zw2 o.op&&bef bs (off+j) i)=false
 | [],off,j'=>by simp[yG]
 |o::os,off,j'=>by
  have ih:=vJ (bs:=bs) (i:=i) os (Nat.succ off) j';have tail:(∃j o',os[j]? = some o'∧j'=Nat.succ off+j∧(zw2 o'.op&&bef bs (Nat.succ off+j) i)=false)↔∃j o',(o::os)[j+1]? = some o'∧j'=off+(j+1)∧(zw2 o'.op&&bef bs (off+(j+1)) i)=false:=by
   constructor
   ·rintro⟨j,o',h1,h2,h3⟩
    exact⟨j,o',by simpa using h1,by omega,by rw[show off+(j+1)=Nat.succ off+j by omega];exact h3⟩
   ·rintro⟨j,o',h1,h2,h3⟩
    exact⟨j,o',by simpa using h1,by omega,by rw[show Nat.succ off+j=off+(j+1) by omega];exact h3⟩
  unfold yG;cases hq:zw2 o.op&&bef bs off i with
  |true=>
   simp only[Yza];rw[ih,tail]
   constructor
   ·rintro⟨j,o',h1,h2,h3⟩;exact⟨j+1,o',h1,h2,h3⟩
   ·rintro⟨j,o',h1,h2,h3⟩
    cases j with
    |zero=>simp only[Yzg,Option.some.injEq]at h1;subst h1;rw[Yzw,hq]at h3;cases h3
    |succ j=>exact⟨j,o',h1,h2,h3⟩
  |false=>
   simp only[Yzc,YzO];rw[ih,tail]
   constructor
   ·rintro (rfl|⟨j,o',h1,h2,h3⟩)
    ·exact⟨0,o,rfl,rfl,by rw[Yzw];exact hq⟩
    ·exact⟨j+1,o',h1,h2,h3⟩
   ·rintro⟨j,o',h1,h2,h3⟩
    cases j with
    |zero=>exact .inl h2
    |succ j=>exact .inr ⟨j,o',h1,h2,h3⟩
theorem zbd(P:Program)(nt:Nat)(ops:Array Oper)(bs:List Nat)(es:List Bool):∀(os:List Oper) (i j:Nat),(xf P nt ops bs es i os)[j]? = (os[j]?).map fun o=>
  (⟨yU P nt ops o,(o.looksAt ops).map bn,anchor P o.op,zw2 o.op,ce (fun k=>bef bs k (i+j)) 0 es,ce (fun k=>!bef bs (i+j) k) 0 es,yG bs (i+j) 0 ops.toList⟩:Zp)
 | [],i,j=>by simp[xf]
 |o::os,i,0=>by simp[xf]
 |o::os,i,j+1=>by
  simp only[xf,Yzl];rw[zbd P nt ops bs es os (Nat.succ i) j,show Nat.succ i+j=i+(j+1) by omega]
structure Spc (n0 N:Nat) (l:List GE) (L:Nat→Bool) (k:Nat) (Hk H:Za):Prop where
 n:H.n.toNat=Hk.n.toNat
 old:∀b:BN,(b.toNat<n0∨n0+N≤b.toNat)→H.t.get b=Hk.t.get b
 res:∀m,m<N→H.t.get (nm n0 m)=if L m=true then(if k≤cmG l m then obG n0 l m else Hk.t.get (nm n0 m)) else none
noncomputable abbrev FG(n0:Nat)(l:List GE)(k:Nat)(Hk:Za)(m:Nat):Option Ze:=if k≤cmG l m then obG n0 l m else Hk.t.get (nm n0 m)
theorem zdq(n0 N:Nat)(b:BN):(b.toNat<n0∨n0+N≤b.toNat)∨∃m,m<N∧b=nm n0 m:=by
 by_cases h:b.toNat<n0∨n0+N≤b.toNat
 ·exact .inl h
 ·exact .inr ⟨b.toNat-n0,by omega,zvS (by omega)⟩
section
variable {P:Program} {nt:Nat} {call:zg} {ops:Array Oper} {n0:Nat} {t t2:Tr Zb} {h0 h2:Za} {l:List GE}
structure Txt (P:Program) (nt:Nat) (call:zg) (ops:Array Oper) (n0:Nat) (t t2:Tr Zb) (h0 h2:Za) (l:List GE):Prop where
 len:l.length=ops.size
 es:l.map (·.d.eff)=zw3 P ops.toList
 ent:∀(j:Nat) (o:Oper),ops[j]? = some o→∃g,l[j]? = some g∧g.d=⟨yU P nt ops o,(o.looksAt ops).map bn,anchor P o.op,zw2 o.op,ce (fun k=>bef (zwR ops.toList) k j) 0 (zw3 P ops.toList),ce (fun k=>!bef (zwR ops.toList) j k) 0 (zw3 P ops.toList),yG (zwR ops.toList) j 0 ops.toList⟩
 fr:t2=frL (fun _=>true) 0 (l.map gdv) t
 fin:h2=hAt h0 l ops.size
 step:∀j g,l[j]? = some g→g.tr=uG (frL (fun k=>decide (k<j)) 0 (l.map gdv) t) g.d.looks∧g.hb=hAt h0 l j∧stepG call n0 j g.d g.tr g.hb=some (g.v,g.ha)
 fresh:∀m,m<ops.size→h0.t.get (nm n0 m)=none
theorem zth(e:evG call n0 0 (vM P nt ops) t h0=some (l,t2,h2))(hf:∀m,m<ops.size→h0.t.get (nm n0 m)=none):Txt P nt call ops n0 t t2 h0 h2 l:=by
 obtain⟨g1,g2,g3,g4⟩:=zjw call n0 _ _ _ _ _ _ _ e;have hget:∀(j:Nat) (o:Oper),ops[j]? = some o→(vM P nt ops)[j]? = some ⟨yU P nt ops o,(o.looksAt ops).map bn,anchor P o.op,zw2 o.op,ce (fun k=>bef (zwR ops.toList) k j) 0 (zw3 P ops.toList),ce (fun k=>!bef (zwR ops.toList) j k) 0 (zw3 P ops.toList),yG (zwR ops.toList) j 0 ops.toList⟩:=by
  intro j o ho;unfold vM;rw[zbd,LzA,ho,Yze];rfl
 have hlen:(vM P nt ops).length=ops.size:=by
  have key:∀(os:List Oper) (i:Nat),(xf P nt ops (zwR ops.toList) (zw3 P ops.toList) i os).length=os.length:=by
   intro os
   induction os with
   |nil=>intro i;rfl
   |cons o os ih=>intro i;simp only[xf,Yzk,ih]
  unfold vM;rw[key,YyP]
 have hll:l.length=ops.size:=by rw[←hlen,←g1,Yzj]
 refine⟨hll,?_,fun j o ho=>?_,g2,by rw[g3,hll],fun j g hj=>by have:=g4 j g hj;rwa [Yze]at this,hf⟩
 ·rw[show (fun x:GE=>x.d.eff)=Zp.eff ∘ GE.d from rfl,←YyD,g1];have key:∀(os:List Oper) (i:Nat),(xf P nt ops (zwR ops.toList) (zw3 P ops.toList) i os).map Zp.eff=zw3 P os:=by
   intro os
   induction os with
   |nil=>intro i;rfl
   |cons o os ih=>intro i;simp only[xf,Yzp,ih];rfl
  exact key _ _
 ·have h1:=hget j o ho;rw[←g1,Lz6]at h1;cases hx:l[j]? with
  |none=>rw[hx]at h1;cases h1
  |some g=>rw[hx]at h1;exact⟨g,rfl,by simpa using h1⟩
theorem zaC{φ:Phi}{n:Nat}{tr:Tr Zb}{h h2:Za}{a:Act}{v:Zb}{o:Oper}(e:xC call (yU P nt ops o) tr h=some (v,h2))(T:Zi φ nt n tr a.tmps):
  (Region.wanted o (yielded ops a.tmps)=true∧cOp P o.op call tr h=some (v,h2))∨(Region.wanted o (yielded ops a.tmps)=false∧v=yh∧h2=h):=by
 have key:∀hh:Za,hh.n.toNat=n→xC call (yU P nt ops o) tr ⟨hh.n,h.t⟩=xC call (yU P nt ops o) tr ⟨hh.n,h.t⟩→True:=fun _ _ _=>trivial;unfold yU at e;have bad:∀{o':Zo},o'=⟨none,y9,none⟩→xC call o' tr h=some (v,h2)→False:=by
  intro o' ho' e;subst ho';cases e
 cases hd:inT nt o.dst with
 |false=>rw[hd]at e;exact(bad rfl e).elim
 |true=>
  rw[hd]at e;simp only[Yza]at e;have fin:∀g,xC call ⟨o.dst.map bn,cOp P o.op,g⟩ tr h=some (v,h2)→(want tr g=true∧cOp P o.op call tr h=some (v,h2))∨(want tr g=false∧v=yh∧h2=h):=by
   intro g e;unfold xC at e;simp only at e;cases hw:want tr g with
   |false=>rw[hw]at e;cases e;exact .inr ⟨rfl,rfl,rfl⟩
   |true=>rw[hw]at e;exact .inl ⟨rfl,e⟩
  split at e
  ·rename_i hg;rcases fin none e with hh|⟨hw,_⟩
   ·exact .inl ⟨by simp[Region.wanted,hg],hh.2⟩
   ·cases hw
  ·rename_i j b hg;split at e
   ·rename_i d hjd;cases hb:Nat.ble (Nat.succ d) nt with
    |false=>rw[hb]at e;exact(bad rfl e).elim
    |true=>
     rw[hb]at e;have T':Zi φ nt (Za.n ⟨bn n,.nil⟩).toNat tr a.tmps:=by
      show Zi φ nt (bn n).toNat tr a.tmps;rw[zK];exact T
     have hyd:=zam T' hjd (yb hb) b;rcases fin (some (bn d,b)) e with⟨hw,hh⟩|⟨hw,hh⟩
     ·exact .inl ⟨by simp only[Region.wanted,hg];rw[hyd];exact hw,hh⟩
     ·exact .inr ⟨by simp only[Region.wanted,hg];rw[hyd];exact hw,hh⟩
   ·exact(bad rfl e).elim
theorem zpS{tr:Tr Zb}{h h2:Za}{v:Zb}{o:Oper}(e:xC call (yU P nt ops o) tr h=some (v,h2)):cOp P o.op call tr h=some (v,h2)∨(v=yh∧h2=h):=by
 unfold yU at e;have fin:∀(d:Option BN) (f:zxq) g,xC call ⟨d,f,g⟩ tr h=some (v,h2)→f call tr h=some (v,h2)∨(v=yh∧h2=h):=by
  intro d f g e;unfold xC at e;simp only at e;cases hw:want tr g with
  |false=>rw[hw]at e;cases e;exact .inr ⟨rfl,rfl⟩
  |true=>rw[hw]at e;exact .inl e
 have bad:∀(g:Option (BN×Bool)),xC call ⟨none,y9,none⟩ tr h=some (v,h2)→False:=fun _ e=>by cases e
 cases hd:inT nt o.dst with
 |false=>rw[hd]at e;exact(bad none e).elim
 |true=>
  rw[hd]at e;simp only[Yza]at e;split at e
  ·exact fin _ _ _ e
  ·split at e
   ·rename_i d _;cases hb:Nat.ble (Nat.succ d) nt with
    |false=>rw[hb]at e;exact(bad none e).elim
    |true=>rw[hb]at e;exact fin _ _ _ e
   ·exact(bad none e).elim
theorem w7{o:Op}(h:zw2 o=true):anchor P o=false:=by simp[anchor,h]
theorem zm5(P:Program)(o:Op):zw2 o=true∨(zw2 o=false∧anchor P o=true)∨(zw2 o=false∧anchor P o=false∧yF P o=true):=by
 cases hm:zw2 o with
 |true=>exact .inl rfl
 |false=>
  cases hq:yF P o with
  |true=>exact .inr (.inr ⟨rfl,by simp[anchor,hm,hq],rfl⟩)
  |false=>exact .inr (.inl ⟨rfl,by simp[anchor,hm,hq]⟩)
theorem Txt.made(X:Txt P nt call ops n0 t t2 h0 h2 l){j:Nat}{o:Oper}{g:GE}(ho:ops[j]? = some o)(hg:l[j]? = some g)(hm:zw2 o.op=true):
  g.ha.n=g.hb.n∧(∀b,b≠nm n0 j→g.ha.t.get b=g.hb.t.get b)∧∃h',xC call (yU P nt ops o) g.tr ⟨nm n0 j,g.hb.t⟩=some (g.v,h')∧h'.t=g.ha.t:=by
 obtain⟨g',hg',hd⟩:=X.ent j o ho;cases hg.symm.trans hg';obtain⟨_,_,hs⟩:=X.step j g hg;unfold stepG at hs;rw[hd]at hs;simp only[hm,Yza]at hs;split at hs
 ·rename_i v h' he;simp only[Option.some.injEq,Prod.mk.injEq]at hs;obtain⟨rfl,hs⟩:=hs;rw[←hs];refine⟨rfl,fun b hb=>?_,h',he,rfl⟩;rcases zpS he with hc|⟨_,rfl⟩
  ·obtain⟨obj,vf,hsh,_⟩:=zi4 (nt:=nt) hm hc;have:=hsh ⟨nm n0 j,g.hb.t⟩;rw[hc]at this;simp only[Option.some.injEq,Prod.mk.injEq]at this;rw[this.2];exact zp _ _ _ _ hb
  ·rfl
 ·cases hs
theorem Txt.quiet(X:Txt P nt call ops n0 t t2 h0 h2 l){j:Nat}{o:Oper}{g:GE}(ho:ops[j]? = some o)(hg:l[j]? = some g)(hm:zw2 o.op=false)(ha:anchor P o.op=false):
  g.ha=g.hb∧∃h',xC call (yU P nt ops o) g.tr ⟨g.hb.n,zxa n0 (yG (zwR ops.toList) j 0 ops.toList) g.hb.t⟩=some (g.v,h'):=by
 obtain⟨g',hg',hd⟩:=X.ent j o ho;cases hg.symm.trans hg';obtain⟨_,_,hs⟩:=X.step j g hg;unfold stepG at hs;rw[hd]at hs;simp only[hm,ha,Yzc]at hs;split at hs
 ·rename_i v h' he;simp only[Option.some.injEq,Prod.mk.injEq]at hs;obtain⟨rfl,hs⟩:=hs;exact⟨hs.symm,h',he⟩
 ·cases hs
theorem Txt.anchor(X:Txt P nt call ops n0 t t2 h0 h2 l){j:Nat}{o:Oper}{g:GE}(ho:ops[j]? = some o)(hg:l[j]? = some g)(hm:zw2 o.op=false)(ha:anchor P o.op=true):
  ∃h',xC call (yU P nt ops o) g.tr ⟨g.hb.n,zxa n0 (yG (zwR ops.toList) j 0 ops.toList) g.hb.t⟩=some (g.v,h')∧g.ha.n=h'.n∧(∀i∈yG (zwR ops.toList) j 0 ops.toList,g.ha.t.get (nm n0 i)=g.hb.t.get (nm n0 i)∧h'.t.get (nm n0 i)=none)∧
   ∀b,(∀i∈yG (zwR ops.toList) j 0 ops.toList,b≠nm n0 i)→g.ha.t.get b=h'.t.get b:=by
 obtain⟨g',hg',hd⟩:=X.ent j o ho;cases hg.symm.trans hg';obtain⟨_,_,hs⟩:=X.step j g hg;unfold stepG at hs;rw[hd]at hs;simp only[hm,ha,Yzc,Yza]at hs;split at hs
 ·rename_i v h' he;split at hs
  ·rename_i t' ht;simp only[Option.some.injEq,Prod.mk.injEq]at hs;obtain⟨rfl,hs⟩:=hs;obtain⟨k1,k2,k3⟩:=ky _ _ _ ht;rw[←hs];exact⟨h',he,rfl,fun i hi=>⟨k1 i hi,k3 i hi⟩,k2⟩
  ·cases hs
 ·cases hs
theorem Txt.mkeff(X:Txt P nt call ops n0 t t2 h0 h2 l):∀g∈l,g.d.mkb=true→g.d.eff=false:=by
 intro g hg hm;obtain⟨j,hj⟩:=List.mem_iff_getElem?.1 hg;have hjl:j<ops.size:=by rw[←X.len];exact(Lz0.1 hj).1
 obtain⟨g',hg',hd⟩:=X.ent j _ (Yzt hjl);cases hj.symm.trans hg';rw[hd]at hm ⊢;exact w7 hm
theorem Txt.ob(X:Txt P nt call ops n0 t t2 h0 h2 l){j:Nat}{o:Oper}{g:GE}(ho:ops[j]? = some o)(hg:l[j]? = some g):obG n0 l j=bif zw2 o.op then g.ha.t.get (nm n0 j) else none:=by
 obtain⟨g',hg',hd⟩:=X.ent j o ho;cases hg.symm.trans hg';unfold obG;rw[hg];simp only;rw[hd]
theorem Txt.spc(X:Txt P nt call ops n0 t t2 h0 h2 l)(hA:∀(i:Nat) (o:Oper),ops[i]? = some o→∀e∈o.after.toList,Region.binds .any e=true→e.on<i):
  ∀j,j≤ops.size→∃Hk,(h0::hsG l)[cmG l j]? = some Hk∧Spc n0 ops.size l (fun m=>decide (m<j)) (cmG l j) Hk (hAt h0 l j):=by
 have hbef:∀i j,bef (zwR ops.toList) i j=true→i<j:=by
  intro i j hb;have hC:Clo ops (fun k=>decide (k<j)):=by
   intro q hq o' e ho' he hb';have:=hA q o' ho' e he hb';simp only[Yzn]at hq ⊢;omega
  have hR:Rdy ops (fun k=>decide (k<j)) j:=by
   intro o' e ho' he hb';have:=hA j o' ho' e he hb'
   simpa using this
  have:=wu hb hC hR
  simpa using this
 intro j
 induction j with
 |zero=>
  intro _;have e0:hAt h0 l 0=h0:=by cases l<;>rfl
  rw[e0,ze5];refine⟨h0,rfl,rfl,fun _ _=>rfl,fun m hm=>?_⟩;rw[Yzb (by simp)];exact X.fresh m hm
 |succ j ih=>
  intro hj;obtain⟨Hk,hHk,S⟩:=ih (by omega);have hjs:j<ops.size:=by omega
  have ho:ops[j]? = some ops[j]:=Yzt hjs;generalize ops[j]=o at ho;obtain⟨g,hg,hd⟩:=X.ent j o ho;have hhb:=(X.step j g hg).2.1;have hha:hAt h0 l (j+1)=g.ha:=zeQ l h0 j g hg;have heff:(l.map (·.d.eff))[j]? = some (CE.anchor P o.op):=by rw[Lz6,hg];simp[hd]
  have hcm:cmG l (j+1)=cmG l j+(bif CE.anchor P o.op then 1 else 0):=by
   cases ha:CE.anchor P o.op with
   |false=>
    rw[Yzc,Yzw];refine wL _ 0 fun k hk=>?_;rw[Yze];have:k≠j:=fun hh=>by rw[hh,heff,ha]at hk;cases hk
    simp only[decide_eq_decide];omega
   |true=>
    rw[Yza];exact zgq _ 0 j (by rw[heff,ha]) (by simp) (by simp) (fun k hk=>by rw[Yze]at hk;simp only[decide_eq_decide];omega)
  rw[hha];rcases zm5 P o.op with hm|⟨hm,ha⟩|⟨hm,ha,_⟩
  ·
   obtain⟨k1,k2,h',k3,k4⟩:=X.made ho hg hm;rw[hcm,w7 hm,Yzc,Yzw];refine⟨Hk,hHk,by rw[k1,hhb];exact S.n,fun b hb=>?_,fun m hmN=>?_⟩
   ·rw[k2 b (fun hh=>by rw[hh,yB]at hb;omega),hhb];exact S.old b hb
   ·by_cases hmj:m=j
    ·subst hmj;rw[Yzd (by simp),Yzd (LzB _),X.ob ho hg,hm];rfl
    ·rw[k2 _ (fun hh=>hmj (vR hh)),hhb,S.res m hmN];by_cases hlt:m<j
     ·rw[Yzd (show decide (m<j)=true by simpa using hlt),Yzd (show decide (m<j+1)=true by simp only[Yzn];omega)]
     ·rw[Yzb (show ¬decide (m<j)=true by simpa using hlt),Yzb (show ¬decide (m<j+1)=true by simp only[Yzn];omega)]
  ·
   obtain⟨h',k1,k2,k3,k4⟩:=X.anchor ho hg hm ha;rw[hcm,ha,Yza];refine⟨g.ha,?_,rfl,fun _ _=>rfl,fun m hmN=>?_⟩
   ·rw[Yzl];exact zhE l j g hg (by rw[hd];exact ha)
   ·by_cases hlt:m<j+1
    ·rw[Yzd (by simpa using hlt),Yzb];have:cmG l m≤cmG l j:=wj _ 0 fun k _ hk=>by simp only[Yzn]at hk ⊢;omega
     omega
    ·rw[Yzb (by simpa using hlt)];have hmem:m∈yG (zwR ops.toList) j 0 ops.toList:=by
      rw[vJ];refine⟨m,ops[m],by rw[LzA];exact Yzt hmN,by omega,?_⟩;rw[Yze];cases hb:bef (zwR ops.toList) m j with
      |false=>simp
      |true=>have:=hbef m j hb;omega
     rw[(k3 m hmem).1,hhb,S.res m hmN,Yzb (show ¬decide (m<j)=true by simp only[Yzn];omega)]
  ·
   obtain⟨k1,_⟩:=X.quiet ho hg hm ha;rw[hcm,ha,Yzc,Yzw,k1,hhb];refine⟨Hk,hHk,S.n,S.old,fun m hmN=>?_⟩;rw[S.res m hmN];by_cases hmj:m=j
   ·subst hmj;rw[Yzb (show ¬decide (m<m)=true by simp),Yzd (show decide (m<m+1)=true by simp),Yzd (LzB _),X.ob ho hg,hm];rfl
   ·by_cases hlt:m<j
    ·rw[Yzd (show decide (m<j)=true by simpa using hlt),Yzd (show decide (m<j+1)=true by simp only[Yzn];omega)]
    ·rw[Yzb (show ¬decide (m<j)=true by simpa using hlt),Yzb (show ¬decide (m<j+1)=true by simp only[Yzn];omega)]
end
end Go.CE
end
section
namespace Go.CE
open Go.RowKit
section
variable {P:Program} {w0:World} {S:Nat→Prop} {nt:Nat} {call:zg} {ops:Array Oper}
theorem zgg(hok:uS P ops (zwR ops.toList)=true):(∀(i:Nat) (o:Oper),ops[i]? = some o→(∀cs b,o.op≠.select cs b)∧∀e∈o.after.toList,Region.binds .any e=true→e.on<i)∧
  ∀(i j:Nat) (oi oj:Oper),ops[i]? = some oi→ops[j]? = some oj→i<j→bef (zwR ops.toList) i j=true∨(oi.apart ops oj=true∧(anchor P oi.op=false∨anchor P oj.op=false)):=by
 obtain⟨h1,h2⟩:=zwY hok
 constructor
 ·intro i o ho;have:=vN _ 0 h1 i o (by rw[LzA];exact ho);rw[Yze]at this;obtain⟨g1,g2⟩:=zwY this;refine⟨(fun cs b hh=>by rw[hh]at g1;cases g1),fun e he hb=>?_⟩;rw[Yz1]at g2;have:=g2 e he;rw[hb]at this;exact yb (by simpa using this)
 ·intro i j oi oj hi hj hlt;have:=vN _ 0 h2 j oj (by rw[LzA];exact hj);rw[Yze]at this;have:=vN _ 0 this i oi (by rw[LzA];exact hi);rw[Yze]at this;simp only[YzL]at this;rcases this with (this|this)|this
  ·have hle:Nat.ble (Nat.succ i) j=true:=Yzm hlt;rw[hle]at this;cases this
  ·exact .inl this
  ·obtain⟨k1,k2⟩:=zwY this;exact .inr ⟨k1,by simpa using k2⟩
theorem zda{n0:Nat}{d:Zp}{tr:Tr Zb}{v:Zb}{mks:List (Nat×Nat×Ze)}:∀(hs:List Za) (c:Nat),zkm call n0 d tr v mks c hs=true→∀(k:Nat) (hk:Za),hs[k]? = some hk→
  ∃h',xC call d.rop tr ⟨hk.n,zxa n0 d.hide (qc n0 (c+k) mks hk.t)⟩=some (v,h')
 | [],_,_,k,hk,hh=>by simp at hh
 |h::hs,c,e,k,hk,hh=>by
  unfold zkm at e;split at e
  ·rename_i v' h' hv;obtain⟨e1,e2⟩:=zwY e;cases k with
   |zero=>
    simp only[Yzg,Option.some.injEq]at hh;subst hh;exact⟨h',by rw[Yzw,hv,zjy e1]⟩
   |succ k=>
    have:=zda hs (Nat.succ c) e2 k hk (by simpa using hh)
    rwa [show Nat.succ c+k=c+(k+1) by omega]at this
  ·cases e
theorem zcC{n0:Nat}{mks:List (Nat×Nat×Ze)}{hs:List Za}:∀(l:List GE),vV call n0 mks hs l=true→∀(j:Nat) (g:GE),l[j]? = some g→g.d.eff=false→g.d.mkb=false→
  g.d.lo=g.d.hi∨∀k hk,g.d.lo≤k→k≤g.d.hi→hs[k]? = some hk→∃h',xC call g.d.rop g.tr ⟨hk.n,zxa n0 g.d.hide (qc n0 k mks hk.t)⟩=some (g.v,h')
 | [],_,j,g,hj,_,_=>by simp at hj
 |g0::l,e,j,g,hj,hd,hm=>by
  obtain⟨e1,e2⟩:=zwY e;cases j with
  |zero=>
   simp only[Yzg,Option.some.injEq]at hj;subst hj;rw[hd,hm]at e1;simp only[Yym,YzL]at e1;rcases e1 with e1|e1
   ·exact .inl (beq_true e1)
   ·refine .inr fun k hk h1 h2 h3=>?_;have:=zda _ _ e1 (k-g0.d.lo) hk (by
     rw[List.getElem?_take_of_lt (by show k-g0.d.lo<Nat.sub (Nat.succ g0.d.hi) g0.d.lo;have:Nat.sub (Nat.succ g0.d.hi) g0.d.lo=g0.d.hi+1-g0.d.lo:=rfl;omega),Yzr];rw[show g0.d.lo+(k-g0.d.lo)=k by omega];exact h3)
    rwa [show g0.d.lo+(k-g0.d.lo)=k by omega]at this
  |succ j=>exact zcC l e2 j g (by simpa using hj) hd hm
theorem zk2(C:yT P call){Q:Exit→Act→World→Prop}{a0:Act}{t t2:Tr Zb}{hh0 h0 h2:Za}{φ0:Phi}{l:List GE}{ro:Option Nat}{n0:Nat}
  (hok:uS P ops (zwR ops.toList)=true) (X:Txt P nt call ops n0 t t2 h0 h2 l) (hch:vV call n0 (zxC n0 0 0 l) (h0::hsG l) l=true) (hn0:hh0.n.toNat=n0) (hh0n:h0.n.toNat=n0+ops.size)
  (hQ:∀a2 w2,Next1 w0 S φ0 nt hh0 t2 h2 a0 a2 w2→Q .normal a2 w2):
  ∀(fuel:Nat) (listed:Array Bool) (φ:Phi) (a:Act) (w:World) (Hk H:Za),listed.size=ops.size→unl listed≤fuel→Clo ops (lst listed)→Ext n0 φ0 φ→
   (h0::hsG l)[ce (lst listed) 0 (zw3 P ops.toList)]? = some Hk→Spc n0 ops.size l (lst listed) (ce (lst listed) 0 (zw3 P ops.toList)) Hk H→Zd w0 S φ H w→n0+ops.size≤H.n.toNat→
   Zi φ nt H.n.toNat (frL (lst listed) 0 (l.map gdv) t) a.tmps→a.defers=a0.defers→(∀m,m<ops.size→lst listed m=false→(φ (nm n0 m)).ok=false)→
   wpAnyIn (FR ro) 0 P .any ops Q fuel listed a w:=by
 obtain⟨hA,hord⟩:=zgg hok;have hA':∀(i:Nat) (o:Oper),ops[i]? = some o→∀e∈o.after.toList,Region.binds .any e=true→e.on<i:=fun i o ho=>(hA i o ho).2;have hbef:∀i j,bef (zwR ops.toList) i j=true→i<j:=by
  intro i j hb;have hC:Clo ops (fun k=>decide (k<j)):=by
   intro q hq o' e ho' he hb';have:=hA' q o' ho' e he hb';simp only[Yzn]at hq ⊢;omega
  have hR:Rdy ops (fun k=>decide (k<j)) j:=by
   intro o' e ho' he hb';have:=hA' j o' ho' e he hb'
   simpa using this
  simpa using wu hb hC hR
 have hspc:=X.spc hA';have hcmE:∀j,cmG l j=ce (fun k=>decide (k<j)) 0 (zw3 P ops.toList):=fun j=>by unfold cmG;rw[X.es]
 have hdst:∀(j:Nat) (o:Oper) (g:GE),ops[j]? = some o→l[j]? = some g→g.d.rop.dst=o.dst.map bn∧inT nt o.dst=true:=by
  intro j o g ho hj;obtain⟨g',hj',hd⟩:=X.ent j o ho;cases hj.symm.trans hj';rw[hd];rcases zm5 P o.op with hm|⟨hm,ha⟩|⟨hm,ha,_⟩
  ·obtain⟨_,_,h',he,_⟩:=X.made ho hj hm;exact zaa he
  ·obtain⟨h',he,_⟩:=X.anchor ho hj hm ha;exact zaa he
  ·obtain⟨_,h',he⟩:=X.quiet ho hj hm ha;exact zaa he
 have hdv:∀(j:Nat) (d:Option BN) (v:Zb) (s:BN),(l.map gdv)[j]? = some (d,v)→d=some s→∃o sn,ops[j]? = some o∧o.dst=some sn∧bn sn=s:=by
  intro j d v s hj hd;rw[Lz6]at hj;cases hx:l[j]? with
  |none=>rw[hx]at hj;cases hj
  |some g=>
   rw[hx]at hj;simp only[Yzv,Option.some.injEq,gdv,Prod.mk.injEq]at hj;have hjl:j<ops.size:=by
    have:=(Lz0.1 hx).1;have:=X.len;omega
   have ho:ops[j]? = some ops[j]:=Yzt hjl;have:=(hdst j _ g ho hx).1;rw[hj.1,hd]at this;cases hod:(ops[j]).dst with
   |none=>rw[hod]at this;cases this
   |some sn=>
    rw[hod]at this;exact⟨_,sn,ho,hod,by simpa using this.symm⟩
 have hes:∀(j:Nat),(zw3 P ops.toList)[j]? = some true→∃o,ops[j]? = some o∧anchor P o.op=true:=by
  intro j hj;unfold zw3 at hj;rw[Lz6,LzA]at hj;cases ho:ops[j]? with
  |none=>rw[ho]at hj;cases hj
  |some o=>rw[ho]at hj;exact⟨o,rfl,by simpa using hj⟩
 have hes':∀(j:Nat) (o:Oper),ops[j]? = some o→(zw3 P ops.toList)[j]? = some (anchor P o.op):=by
  intro j o ho;unfold zw3;rw[Lz6,LzA,ho];rfl
 have hhid:∀(i m:Nat) (om:Oper),ops[m]? = some om→(m∈yG (zwR ops.toList) i 0 ops.toList↔(zw2 om.op&&bef (zwR ops.toList) m i)=false):=by
  intro i m om hom;rw[vJ]
  constructor
  ·rintro⟨j,o,h1,h2,h3⟩
   rw[Yze]at h2 h3;subst h2;rw[LzA]at h1;cases hom.symm.trans h1;exact h3
  ·intro hq;exact⟨m,om,by rw[LzA];exact hom,by omega,by rw[Yze];exact hq⟩
 have hhidlt:∀(i m:Nat),m∈yG (zwR ops.toList) i 0 ops.toList→m<ops.size:=by
  intro i m hm;rw[vJ]at hm;obtain⟨j,o,h1,h2,_⟩:=hm;rw[LzA]at h1;have:=(Lz7.1 h1).1;omega
 have hFG:∀(j:Nat) (o:Oper) (g:GE) (Hk:Za) (m:Nat),ops[j]? = some o→l[j]? = some g→zw2 o.op=false→anchor P o.op=true→(h0::hsG l)[cmG l j]? = some Hk→m∈yG (zwR ops.toList) j 0 ops.toList→
   FG n0 l (cmG l j+1) g.ha m=FG n0 l (cmG l j) Hk m:=by
  intro j o g Hk m ho hg hm ha hHk hmem;have hmN:=hhidlt j m hmem;obtain⟨h',k1,k2,k3,k4⟩:=X.anchor ho hg hm ha;have hjN:j<ops.size:=(Lz7.1 ho).1;obtain⟨Hk',hHk',Sp⟩:=hspc j (by omega);cases hHk.symm.trans hHk';have hhb:=(X.step j g hg).2.1;have hgm:g.ha.t.get (nm n0 m)=if decide (m<j)=true then FG n0 l (cmG l j) Hk m else none:=by
   rw[(k3 m hmem).1,hhb];exact Sp.res m hmN
  show (if cmG l j+1≤cmG l m then obG n0 l m else g.ha.t.get (nm n0 m))=if cmG l j≤cmG l m then obG n0 l m else Hk.t.get (nm n0 m)
  rcases YyI m j with hmj|hmj|hmj
  ·have hle:cmG l m≤cmG l j:=wj _ 0 fun k _ hk=>by simp only[Yzn]at hk ⊢;omega
   rw[Yzb (by omega),hgm,Yzd (by simpa using hmj)]
  ·subst hmj;rw[Yzb (by omega),hgm,Yzb (by simp),Yzd (LzB _),X.ob ho hg,hm];rfl
  ·have hle:cmG l j+1≤cmG l m:=by
    have h1:cmG l (j+1)=cmG l j+1:=by
     refine zgq _ 0 j ?_ (by simp) (by simp) (fun k hk=>by rw[Yze]at hk;simp only[decide_eq_decide];omega);rw[X.es,hes' j o ho,ha]
    have h2:cmG l (j+1)≤cmG l m:=wj _ 0 fun k _ hk=>by simp only[Yzn]at hk ⊢;omega
    omega
   rw[Yzd hle,Yzd (by omega)]
 have FGu:∀(k:Nat) (Hk:Za) (m:Nat),m<ops.size→(h0::hsG l)[k]? = some Hk→(∀(j:Nat) (oj:Oper),ops[j]? = some oj→anchor P oj.op=true→cmG l j<k→m∈yG (zwR ops.toList) j 0 ops.toList)→FG n0 l k Hk m=obG n0 l m:=by
  intro k
  induction k with
  |zero=>intro Hk m _ _ _;exact Yzd (YzC _)
  |succ k ih=>
   intro Hk m hmN hHk hall;rw[Yzl]at hHk;obtain⟨j,g,k1,k2,k3,k4⟩:=zeP l k Hk hHk;have hjN:j<ops.size:=by rw[←X.len];exact(Lz0.1 k1).1
   have ho:ops[j]? = some ops[j]:=Yzt hjN;obtain⟨g',hg',hd⟩:=X.ent j _ ho;cases k1.symm.trans hg';have ha:anchor P ops[j].op=true:=by rw[hd]at k2;exact k2
   have hm:zw2 ops[j].op=false:=by
    cases hm:zw2 ops[j].op with
    |false=>rfl
    |true=>rw[w7 hm]at ha;cases ha
   obtain⟨Hk',hHk',_⟩:=hspc j (by omega);have:=hFG j _ g Hk' m ho k1 hm ha hHk' (hall j _ ho ha (by omega));rw[k3,k4]at this;rw[this];rw[k3]at hHk';exact ih Hk' m hmN hHk' fun j oj hoj haj hlt=>hall j oj hoj haj (by omega)
 have FGn:∀(k:Nat) (Hk:Za) (m:Nat) (om:Oper),ops[m]? = some om→zw2 om.op=false→(h0::hsG l)[k]? = some Hk→FG n0 l k Hk m=none:=by
  intro k Hk m om hom hmk hHk;have hmN:m<ops.size:=(Lz7.1 hom).1;obtain⟨g,hg,_⟩:=X.ent m om hom;rw[FGu k Hk m hmN hHk fun j oj _ _ _=>(hhid j m om hom).2 (by rw[hmk];rfl),X.ob hom hg,hmk];rfl
 have hkNone:∀(k:Nat) (Hk:Za) (m:Nat),m<ops.size→(h0::hsG l)[k]? = some Hk→k≤cmG l m→Hk.t.get (nm n0 m)=none:=by
  intro k Hk m hmN hHk hle;cases k with
  |zero=>simp only[Yzg,Option.some.injEq]at hHk;subst hHk;exact X.fresh m hmN
  |succ k=>
   rw[Yzl]at hHk;obtain⟨j,g,k1,k2,k3,k4⟩:=zeP l k Hk hHk;have hjN:j<ops.size:=by rw[←X.len];exact(Lz0.1 k1).1
   obtain⟨Hk',_,Sp⟩:=hspc (j+1) (by omega);rw[zeQ l h0 j g k1,k4]at Sp;have hmj:¬m<j+1:=fun hh=>by
    have:cmG l m≤cmG l j:=wj _ 0 fun q _ hq=>by simp only[Yzn]at hq ⊢;omega
    omega
   rw[Sp.res m hmN,Yzb (show ¬decide (m<j+1)=true by simpa using hmj)]
 have finish:∀(listed:Array Bool) (φ:Phi) (a:Act) (w:World) (Hk H:Za),(∀i,i<ops.size→lst listed i=true)→Ext n0 φ0 φ→
   (h0::hsG l)[ce (lst listed) 0 (zw3 P ops.toList)]? = some Hk→Spc n0 ops.size l (lst listed) (ce (lst listed) 0 (zw3 P ops.toList)) Hk H→Zd w0 S φ H w→n0+ops.size≤H.n.toNat→
   Zi φ nt H.n.toNat (frL (lst listed) 0 (l.map gdv) t) a.tmps→a.defers=a0.defers→Q .normal a w:=by
  intro listed φ a w Hk H hall hE hH Sp HR hn T hdf;have hce:ce (lst listed) 0 (zw3 P ops.toList)=cmG l ops.size:=by
   rw[hcmE];refine wL _ 0 fun j hj=>?_;obtain⟨o,ho,_⟩:=hes j hj;have:=(Lz7.1 ho).1;rw[Yze,hall j this]
   simpa using this
  rw[hce]at hH Sp;obtain⟨Hk',hHk',Sp'⟩:=hspc ops.size (LzB _);cases hH.symm.trans hHk';rw[←X.fin]at Sp';have hg:∀b,h2.t.get b=H.t.get b:=by
   intro b;rcases zdq n0 ops.size b with hb|⟨m,hm,rfl⟩
   ·rw[Sp.old b hb,Sp'.old b hb]
   ·rw[Sp.res m hm,Sp'.res m hm,Yzd (hall m hm),Yzd (show decide (m<ops.size)=true by simpa using hm)]
  have hnn:h2.n.toNat=H.n.toNat:=by rw[Sp.n,Sp'.n]
  refine hQ a w ⟨φ,by rw[hn0];exact hE,HR.of_get hg hnn,?_,hdf,by rw[hn0,hnn];omega⟩;rw[hnn,X.fr,←qV (L:=lst listed) (l.map gdv) 0 t (fun j hj=>by rw[Yze];exact hall j (by simpa[X.len] using hj))];exact T
 intro fuel
 induction fuel with
 |zero=>
  intro listed φ a w Hk H hsz hu hC hE hH Sp HR hn T hdf hbad;have hall:∀i,i<ops.size→lst listed i=true:=fun i hi=>zis (by omega) (by omega);have hnil:Region.ready .any ops listed=[]:=by
   cases hr:Region.ready .any ops listed with
   |nil=>rfl
   |cons i r=>
    obtain⟨o,ho,h1,h2,h3⟩:=mem_ready (ops:=ops) (listed:=listed) (i:=i) (by rw[hr];simp);rw[hall i (by omega)]at h2;cases h2
  exact⟨hnil,finish listed φ a w Hk H hall hE hH Sp HR hn T hdf⟩
 |succ fuel ih=>
  intro listed φ a w Hk H hsz hu hC hE hH Sp HR hn T hdf hbad;refine⟨fun hnil=>finish listed φ a w Hk H (zdU (ops:=ops) hsz (fun i o e ho he hb=>hA' i o ho e he hb) hnil) hE hH Sp HR hn T hdf,fun i hi=>?_⟩;obtain⟨o,ho,hlt,hli,hR⟩:=mem_ready hi;have hiN:i<ops.size:=(Lz7.1 ho).1;obtain⟨g,hj,hgd⟩:=X.ent i o ho;obtain⟨htr,hhb,_⟩:=X.step i g hj;obtain⟨hnosel,hedge⟩:=hA i o ho;obtain⟨hdd,hdin⟩:=hdst i o g ho hj;generalize hk:ce (lst listed) 0 (zw3 P ops.toList)=k at hH Sp;have before:∀j,bef (zwR ops.toList) j i=true→lst listed j=true:=fun j hb=>wu hb hC hR;have after:∀j,bef (zwR ops.toList) i j=true→lst listed j=false:=by
   intro j hb;cases hj:lst listed j with
   |false=>rfl
   |true=>
    have:=wu hb hC (hC j hj);rw[hli]at this;cases this
  have hCi:Clo ops (fun k=>decide (k<i)):=by
   intro j hj o' e ho' he hb;have:=hA' j o' ho' e he hb;simp only[Yzn]at hj ⊢;omega
  have hRi:Rdy ops (fun k=>decide (k<i)) i:=by
   intro o' e ho' he hb;have:=hA' i o' ho' e he hb
   simpa using this
  have hlk:g.d.looks=(o.looksAt ops).map bn:=by rw[hgd]
  rw[hlk]at htr;have hagree:∀s∈(o.looksAt ops).map bn,(frL (fun k=>decide (k<i)) 0 (l.map gdv) t).get s=(frL (lst listed) 0 (l.map gdv) t).get s:=by
   intro s hs';obtain⟨sn,hsn,rfl⟩:=List.mem_map.1 hs';rw[uQ,uQ]
   congr 1
   refine qM _ 0 fun j d v hjd hds=>?_;obtain⟨oj,sj,hoj,hsj,hbe⟩:=hdv j d v _ hjd hds;have:=u4 hbe;subst this;rw[Yze];rcases YyI j i with hji|hji|hji
   ·rcases hord j i oj o hoj ho hji with hb|⟨hap,_⟩
    ·rw[before j hb];simpa using hji
    ·exact absurd hsn ((Oper.apart_spec hap).1 _ hsj)
   ·subst hji;rw[hli];simp
   ·rcases hord i j o oj ho hoj hji with hb|⟨hap,_⟩
    ·rw[after j hb];simp;omega
    ·exact absurd hsn ((Oper.apart_spec hap).2.2 _ hsj)
  have htrg:∀s,g.tr.get s=(frL (lst listed) 0 (l.map gdv) t).get s∧s∈(o.looksAt ops).map bn∨g.tr.get s=none:=by
   intro s
   classical
   have:=vu (frL (fun k=>decide (k<i)) 0 (l.map gdv) t) s ((o.looksAt ops).map bn);rw[←htr]at this;by_cases hm:s∈(o.looksAt ops).map bn
   ·rw[Yzd hm,hagree s hm]at this;exact .inl ⟨this,hm⟩
   ·rw[Yzb hm]at this;exact .inr this
  have Tr':Zi φ nt H.n.toNat g.tr (wT φ nt g.tr):=by
   refine zgl (fun j hj=>?_) (fun s v hv=>?_)
   ·rcases htrg (bn j) with⟨h1,_⟩|h1
    ·rw[h1];exact T.out j hj
    ·exact h1
   ·rcases htrg s with⟨h1,_⟩|h1
    ·rw[h1]at hv;exact T.wf s v hv
    ·rw[h1]at hv;cases hv
  have htmps:∀sn∈o.looksAt ops,a.tmps[sn]? = (wT φ nt g.tr)[sn]?:=by
   intro sn hsn;by_cases hlt':sn<nt
   ·rw[T.get sn hlt',Tr'.get sn hlt'];have hm:bn sn∈(o.looksAt ops).map bn:=List.mem_map.2 ⟨sn,hsn,rfl⟩;rw[←hagree _ hm]
    classical
    have:=vu (frL (fun k=>decide (k<i)) 0 (l.map gdv) t) (bn sn) ((o.looksAt ops).map bn);rw[←htr,Yzd hm]at this;rw[this]
   ·have e1:a.tmps[sn]? = none:=Yz5 (by rw[T.size];exact Nat.le_of_not_lt hlt');have e2:(wT φ nt g.tr)[sn]? = none:=Yz5 (by rw[Tr'.size];exact Nat.le_of_not_lt hlt');rw[e1,e2]
  have hexec:execOp a.eval o=execOp ({ tmps:=wT φ nt g.tr,defers:=[] }:Act).eval o:=by
   refine execOp_congr o hnosel fun x hx=>?_;cases x with
   |tmp sn=>
    have:=htmps sn (Yzx _ (List.mem_filterMap.2 ⟨.tmp sn,by simpa using hx,rfl⟩));simp only[Act.eval,Yzy,this]
   |_=>rfl
  have hwant:Region.wanted o (yielded ops a.tmps)=Region.wanted o (yielded ops (wT φ nt g.tr)):=by
   unfold Region.wanted;cases hg:o.guard with
   |none=>rfl
   |some gb=>
    obtain⟨q,b⟩:=gb;simp only;have:yielded ops a.tmps q=yielded ops (wT φ nt g.tr) q:=by
     unfold yielded;cases hd:(ops[q]?).bind (·.dst) with
     |none=>rfl
     |some sn=>
      have:=htmps sn (YzF _ (by simp[hg,hd]));simp only[Yz0,this]
    rw[this]
  have hC':Clo ops (lst (listed.setIfInBounds i true)):=by
   intro j hj o' e ho' he hb;rw[wR hlt]at hj ⊢;rw[YzL]
   right
   simp only[YzL,Yzn]at hj;rcases hj with hj|hj
   ·subst hj;exact hR o' e ho' he hb
   ·exact hC j hj o' e ho' he hb
  have next:∀(φ2:Phi) (w2:World) (Hk' H':Za),zxF H.n.toNat φ φ2→Ext n0 φ φ2→H.n.toNat≤H'.n.toNat→
    (h0::hsG l)[ce (lst (listed.setIfInBounds i true)) 0 (zw3 P ops.toList)]? = some Hk'→Spc n0 ops.size l (lst (listed.setIfInBounds i true)) (ce (lst (listed.setIfInBounds i true)) 0 (zw3 P ops.toList)) Hk' H'→
    Zd w0 S φ2 H' w2→wfA φ2 H'.n.toNat g.v→(∀m,m<ops.size→lst (listed.setIfInBounds i true) m=false→(φ2 (nm n0 m)).ok=false)→
    wpAnyIn (FR ro) 0 P .any ops Q fuel (listed.setIfInBounds i true) (a.put o.dst (zq φ2 g.v)) w2:=by
   intro φ2 w2 Hk' H' he he0 hle hH' Sp' H2 hv hbad';refine ih _ φ2 _ w2 Hk' H' (by simpa using hsz) ?_ hC' (hE.trans he0 (LzB _)) hH' Sp' H2 (YzA hn hle) ?_ ((put_defers _ _ _).trans hdf) hbad'
   ·have:=zln hlt hli;omega
   ·refine Zi.of_get (Zi.put (T.extW he hle) hv o.dst hdin) fun s=>?_
    classical
    rw[zd9,uQ];have hri:(l.map gdv)[i]? = some (o.dst.map bn,g.v):=by
     rw[Lz6,hj];simp only[Yzv,gdv];rw[←hdd]
    by_cases hd:o.dst.map bn=some s
    ·rw[Yzd hd];rw[hd]at hri;rw[zhw (l.map gdv) 0 i g.v hri (by rw[Yze,wR hlt];simp) (fun j d u hij hjd hds=>?_)]
     ·rfl
     ·rw[Yze,wR hlt];obtain⟨oj,sj,hoj,hsj,hbe⟩:=hdv j d u _ hjd hds;have hne:¬j=i:=by omega
      simp only[hne,decide_false,Yym];rcases hord i j o oj ho hoj hij with hb|⟨hap,_⟩
      ·exact after j hb
      ·cases hod:o.dst with
       |none=>rw[hod]at hd;cases hd
       |some so=>
        rw[hod]at hd;have:so=sj:=u4 (by rw[hbe];simpa using hd);subst this;exact absurd hsj ((Oper.apart_spec hap).2.1 _ hod)
    ·rw[Yzb hd,uQ]
     congr 1
     refine qM _ 0 fun j d u hjd hds=>?_;rw[Yze,wR hlt];have hne:¬j=i:=fun hh=>by
      subst hh;rw[hri]at hjd;cases hjd;exact hd hds
     simp[hne]
  have lset:∀m,lst (listed.setIfInBounds i true) m=(decide (m=i)||lst listed m):=wR hlt;have badK:∀(φ2:Phi),(∀m,m<ops.size→m≠i→lst listed m=false→φ2 (nm n0 m)=φ (nm n0 m))→∀m,m<ops.size→lst (listed.setIfInBounds i true) m=false→(φ2 (nm n0 m)).ok=false:=by
   intro φ2 hsame m hm hl;rw[lset,Yz4]at hl;rw[hsame m hm (by simpa using hl.1) hl.2];exact hbad m hm hl.2
  unfold wpOpIn;simp only[ho];obtain⟨Hi,hHi,Spi⟩:=hspc i (by omega);rw[←hhb]at Spi;have partOf:∀(t':Tr Ze) (n':BN),(∀b o',(b.toNat<n0∨n0+ops.size≤b.toNat)→t'.get b=some o'→Hk.t.get b=some o')→
    (∀m,m<ops.size→m∉yG (zwR ops.toList) i 0 ops.toList→∀o',t'.get (nm n0 m)=some o'→FG n0 l k Hk m=some o')→(∀m∈yG (zwR ops.toList) i 0 ops.toList,t'.get (nm n0 m)=none)→Sbh ⟨n',t'⟩ H:=by
   intro t' n' h1 h2 h3 b o' hb;rcases zdq n0 ops.size b with hb'|⟨m,hm,rfl⟩
   ·rw[Sp.old b hb'];exact h1 b o' hb' hb
   ·by_cases hmem:m∈yG (zwR ops.toList) i 0 ops.toList
    ·have hb:t'.get (nm n0 m)=some o':=hb;rw[h3 m hmem]at hb;cases hb
    ·have hq:(zw2 ops[m].op&&bef (zwR ops.toList) m i)=true:=by
      cases hq:zw2 ops[m].op&&bef (zwR ops.toList) m i with
      |true=>rfl
      |false=>exact absurd ((hhid i m _ (Yzt hm)).2 hq) hmem
     rw[Sp.res m hm,Yzd (before m (zwY hq).2)];exact h2 m hm hmem o' hb
  have hself:Sbh ⟨g.hb.n,zxa n0 (yG (zwR ops.toList) i 0 ops.toList) g.hb.t⟩ H∨cmG l i≠k:=by
   by_cases hki:cmG l i=k
   ·left
    rw[hki]at hHi Spi;cases hH.symm.trans hHi;refine partOf _ _ (fun b o' hb hget=>?_) (fun m hmN hmem o' hget=>?_) (fun m hmem=>zcy _ _ m hmem)
    ·rw[vU _ _ b fun j hj hh=>by have:=hhidlt i j hj;rw[hh,yB]at hb;omega]at hget;rw[←Spi.old b hb];exact hget
    ·rw[vU _ _ _ fun j hj hh=>hmem (by rw[vR hh];exact hj),Spi.res m hmN]at hget;by_cases hmi:decide (m<i)=true
     ·rw[Yzd hmi]at hget;exact hget
     ·rw[Yzb hmi]at hget;cases hget
   ·exact .inr hki
  have hnE:cmG l i=k→g.hb.n.toNat=H.n.toNat:=by
   intro hki;rw[hki]at hHi;cases hH.symm.trans hHi;rw[Spi.n,Sp.n]
  have ceSame:anchor P o.op=false→ce (lst (listed.setIfInBounds i true)) 0 (zw3 P ops.toList)=k:=by
   intro ha;rw[←hk];refine wL _ 0 fun j hj=>?_;rw[Yze,lset];obtain⟨oj,hoj,haj⟩:=hes j hj;have:j≠i:=fun hh=>by subst hh;cases ho.symm.trans hoj;rw[ha]at haj;cases haj
   simp[this]
  have spcSame:anchor P o.op=false→FG n0 l k Hk i=none→Spc n0 ops.size l (lst (listed.setIfInBounds i true)) k Hk H:=by
   intro ha hnone;refine⟨Sp.n,Sp.old,fun m hmN=>?_⟩;rw[Sp.res m hmN,lset];by_cases hmi:m=i
   ·subst hmi;rw[Yzb (by rw[hli];simp),Yzd (by simp)];exact hnone.symm
   ·simp only[hmi,decide_false,Yym]
  rcases zm5 P o.op with hm|⟨hm,ha⟩|⟨hm,ha,hq⟩
  ·
   have ha:=w7 (P:=P) hm;obtain⟨k1,k2,h',k3,k4⟩:=X.made ho hj hm;have hob:FG n0 l k Hk i=obG n0 l i:=by
    refine FGu k Hk i hiN hH fun j oj hoj haj hlt=>(hhid j i o ho).2 ?_;cases hb:bef (zwR ops.toList) i j with
    |false=>simp
    |true=>
     have hlj:=after j hb;exfalso;have hle:ce (lst listed) 0 (zw3 P ops.toList)≤ce (fun q=>decide (q<j)) 0 (zw3 P ops.toList):=by
      refine wj _ 0 fun q hq hlq=>?_;rw[Yze]at hlq ⊢;obtain⟨oq,hoq,haq⟩:=hes q hq;rcases YyI q j with hqj|hqj|hqj
      ·simpa using hqj
      ·subst hqj;rw[hlj]at hlq;cases hlq
      ·rcases hord j q oj oq hoj hoq hqj with hb'|⟨_,hc|hc⟩
       ·have:=wu hb' hC (hC q hlq);rw[hlj]at this;cases this
       ·rw[haj]at hc;cases hc
       ·rw[haq]at hc;cases hc
     rw[hk,←hcmE]at hle;omega
   have hHnone:H.t.get (nm n0 i)=none:=by rw[Sp.res i hiN,Yzb (by rw[hli];simp)]
   have hnmlt:(nm n0 i).toNat<H.n.toNat:=by rw[yB];omega
   rcases zaC (a:={ tmps:=wT φ nt g.tr,defers:=[] }) k3 Tr' with⟨hw,hc⟩|⟨hw,hv,hh⟩
   ·rw[Yzd (by rw[hwant];exact hw)];obtain⟨obj,vf,hsh,hconc,hwf,howf⟩:=zi4 (nt:=nt) hm hc;have e1:=hsh ⟨nm n0 i,g.hb.t⟩;rw[hc]at e1;simp only[Option.some.injEq,Prod.mk.injEq]at e1;obtain⟨ev,eh⟩:=e1;have hobj:obG n0 l i=some obj:=by
     rw[X.ob ho hj,hm];show g.ha.t.get (nm n0 i)=some obj;rw[←k4,eh];exact zz _ _ _
    refine zfO C HR (ar:={ tmps:=wT φ nt g.tr,defers:=[] }) Tr' hexec (hsh H) ?_;intro φ1 w2 he H2 hv hle;obtain⟨HR2,he2⟩:=HR.rename H2 he (howf φ _ _ Tr') hnmlt (hbad i hiN hli) hHnone;have hcv:zq φ1 (.s (.one (vf H.n)))=zq (upd φ (nm n0 i) (φ1 H.n)) g.v:=by
     rw[ev];exact hconc _ _ _ _ (zo _ _ _).symm
    rw[hcv];refine next _ w2 Hk (H.put (nm n0 i) obj) he2 (fun b hb=>?_) (LzB _) (by rw[ceSame ha];exact hH) ?_ HR2 ?_ (badK _ fun m hmN hmi _=>?_)
    ·have:b≠nm n0 i:=fun hh=>by rw[hh,yB]at hb;omega
     simp[upd,this]
    ·rw[ceSame ha];refine⟨Sp.n,fun b hb=>?_,fun m hmN=>?_⟩
     ·show (H.t.set (nm n0 i) obj).get b=_;rw[zp _ _ _ _ (fun hh=>by rw[hh,yB]at hb;omega)];exact Sp.old b hb
     ·show (H.t.set (nm n0 i) obj).get (nm n0 m)=_;rw[lset];by_cases hmi:m=i
      ·subst hmi;rw[zz,Yzd (by simp)];exact(hob.trans hobj).symm
      ·rw[zp _ _ _ _ (fun hh=>hmi (vR hh)),Sp.res m hmN];simp only[hmi,decide_false,Yym]
    ·rw[ev];refine hwf _ _ _ ⟨hnmlt,?_⟩;rw[zo];exact H2.okb H.n obj (by simp only[Za.new];exact zz _ _ _)
    ·have:nm n0 m≠nm n0 i:=fun hh=>hmi (vR hh);simp[upd,this]
   ·rw[Yzb (by rw[hwant,hw];simp)];have hnone:FG n0 l k Hk i=none:=by
     rw[hob,X.ob ho hj,hm];show g.ha.t.get (nm n0 i)=none;rw[←k4,hh];show g.hb.t.get (nm n0 i)=none;rw[Spi.res i hiN,Yzb (by simp)]
    have hn':=next φ w Hk H (Ext.refl _ _).w (Ext.refl _ _) (LzB _) (by rw[ceSame ha];exact hH) (by rw[ceSame ha];exact spcSame ha hnone) HR (by rw[hv];exact fun _ hv=>by cases hv) (badK φ fun _ _ _ _=>rfl)
    rw[hv]at hn';exact⟨fun f _=>trivial,hn'⟩
  ·
   have hki:cmG l i=k:=by
    rw[hcmE,←hk];refine (wL _ 0 fun j hj=>?_).symm;obtain⟨oj,hoj,haj⟩:=hes j hj;rw[Yze];rcases YyI j i with hji|hji|hji
    ·rcases hord j i oj o hoj ho hji with hb|⟨_,hc|hc⟩
     ·rw[before j hb];simpa using hji
     ·rw[haj]at hc;cases hc
     ·rw[ha]at hc;cases hc
    ·subst hji;rw[hli];simp
    ·rcases hord i j o oj ho hoj hji with hb|⟨_,hc|hc⟩
     ·rw[after j hb];simp;omega
     ·rw[ha]at hc;cases hc
     ·rw[haj]at hc;cases hc
   have hsub:=hself.resolve_right (fun hh=>hh hki);have hEn:=hnE hki;obtain⟨h',k1,k2,k3,k4⟩:=X.anchor ho hj hm ha;have hce1:ce (lst (listed.setIfInBounds i true)) 0 (zw3 P ops.toList)=k+1:=by
    rw[←hk];exact zgq (L:=lst listed) (zw3 P ops.toList) 0 i (by rw[hes' i o ho,ha]) (by rw[Yze];exact hli) (by rw[lset];simp) (fun j hj=>by rw[Yze]at hj;rw[lset];simp[hj])
   have hH1:(h0::hsG l)[k+1]? = some g.ha:=by
    rw[Yzl,←hki];exact zhE l i g hj (by rw[hgd];exact ha)
   have HE:=HR.sub hsub hEn;have go:∀(φ2:Phi) (w2:World),Ext H.n.toNat φ φ2→Zd w (zze φ ⟨g.hb.n,zxa n0 (yG (zwR ops.toList) i 0 ops.toList) g.hb.t⟩) φ2 h' w2→wfA φ2 h'.n.toNat g.v→H.n.toNat≤h'.n.toNat→
     wpAnyIn (FR ro) 0 P .any ops Q fuel (listed.setIfInBounds i true) (a.put o.dst (zq φ2 g.v)) w2:=by
    intro φ2 w2 he H2 hv hle;obtain⟨t',m1,m2⟩:=zAu (n0:=n0) H.t h'.t (yG (zwR ops.toList) i 0 ops.toList);have HR2:Zd w0 S φ2 ⟨h'.n,t'⟩ w2:=by
     refine HR.join hsub hEn H2 he hle rfl fun b o' hb=>?_;by_cases hmem:∃m∈yG (zwR ops.toList) i 0 ops.toList,b=nm n0 m
     ·obtain⟨m,hmem,rfl⟩:=hmem
      right
      exact⟨by rw[←m1 m hmem];exact hb,zcy _ _ m hmem⟩
     ·left
      rw[←m2 b fun j hj hh=>hmem ⟨j,hj,hh⟩];exact hb
    refine next φ2 w2 g.ha ⟨h'.n,t'⟩ he.w (he.mono (by omega)) hle (by rw[hce1];exact hH1) ?_ HR2 hv (badK φ2 fun m hmN _ _=>he _ (by rw[yB];omega))
    rw[hce1];refine⟨by rw[k2],fun b hb=>?_,fun m hmN=>?_⟩
    ·have hb':∀j∈yG (zwR ops.toList) i 0 ops.toList,b≠nm n0 j:=fun j hj hh=>by have:=hhidlt i j hj;rw[hh,yB]at hb;omega
     show t'.get b=_;rw[m2 b hb',k4 b hb']
    ·show t'.get (nm n0 m)=_;rw[lset];by_cases hmem:m∈yG (zwR ops.toList) i 0 ops.toList
     ·have hfg:FG n0 l (k+1) g.ha m=FG n0 l k Hk m:=by
       have:=hFG i o g Hk m ho hj hm ha (by rw[hki];exact hH) hmem
       rwa [hki]at this
      rw[m1 m hmem,Sp.res m hmN];by_cases hmi:m=i
      ·subst hmi;rw[Yzb (by rw[hli];simp),Yzd (by simp)];exact(hfg.trans (FGn k Hk m o ho hm hH)).symm
      ·simp only[hmi,decide_false,Yym];by_cases hlm:lst listed m=true
       ·rw[Yzd hlm,Yzd hlm];exact hfg.symm
       ·rw[Yzb hlm,Yzb hlm]
     ·have hq:(zw2 ops[m].op&&bef (zwR ops.toList) m i)=true:=by
       cases hq:zw2 ops[m].op&&bef (zwR ops.toList) m i with
       |true=>rfl
       |false=>exact absurd ((hhid i m _ (Yzt hmN)).2 hq) hmem
      have hbm:=(zwY hq).2;have hmi:=hbef m i hbm;have hle':cmG l m≤cmG l i:=wj _ 0 fun q _ hq=>by simp only[Yzn]at hq ⊢;omega
      have hb':∀j∈yG (zwR ops.toList) i 0 ops.toList,nm n0 m≠nm n0 j:=fun j hj hh=>hmem (by rw[vR hh];exact hj);rw[m2 _ hb',Yzd (by rw[before m hbm];simp),Yzb (by omega),k4 _ hb']
   have TrE:Zi φ nt (Za.n ⟨g.hb.n,zxa n0 (yG (zwR ops.toList) i 0 ops.toList) g.hb.t⟩).toNat g.tr (wT φ nt g.tr):=by
    show Zi φ nt g.hb.n.toNat g.tr _;rw[hEn];exact Tr'
   rcases zaC (a:={ tmps:=wT φ nt g.tr,defers:=[] }) k1 Tr' with⟨hw,hc⟩|⟨hw,hv,hh⟩
   ·rw[Yzd (by rw[hwant];exact hw)];refine zfO C HE (ar:={ tmps:=wT φ nt g.tr,defers:=[] }) TrE hexec hc ?_;intro φ2 w2 he H2 hv hle;exact go φ2 w2 (by rw[←hEn];exact he) H2 hv (by rw[←hEn];exact hle)
   ·rw[Yzb (by rw[hwant,hw];simp)];have:=go φ w (Ext.refl _ _) (by rw[hh];exact HE) (by rw[hv];exact fun _ hv=>by cases hv) (by rw[hh];exact Nat.le_of_eq hEn.symm);rw[hv]at this;exact⟨fun f _=>trivial,this⟩
  ·
   have hex:∃X':Za,Sbh X' H∧∃h',xC call (yU P nt ops o) g.tr X'=some (g.v,h'):=by
    obtain⟨_,h',he⟩:=X.quiet ho hj hm ha;have hlo:ce (fun q=>bef (zwR ops.toList) q i) 0 (zw3 P ops.toList)≤k:=by
     rw[←hk];exact wj _ 0 fun j _ hb=>by rw[Yze]at hb ⊢;exact before j hb
    have hhi:k≤ce (fun q=>!bef (zwR ops.toList) i q) 0 (zw3 P ops.toList):=by
     rw[←hk];refine wj _ 0 fun j _ hb=>?_;rw[Yze]at hb ⊢;cases hbb:bef (zwR ops.toList) i j with
     |false=>rfl
     |true=>rw[after j hbb]at hb;cases hb
    have hlo0:ce (fun q=>bef (zwR ops.toList) q i) 0 (zw3 P ops.toList)≤cmG l i:=by
     rw[hcmE];exact wj _ 0 fun j _ hb=>by rw[Yze]at hb ⊢;exact wu hb hCi hRi
    have hhi0:cmG l i≤ce (fun q=>!bef (zwR ops.toList) i q) 0 (zw3 P ops.toList):=by
     rw[hcmE];refine wj _ 0 fun j _ hb=>?_;rw[Yze]at hb ⊢;cases hbb:bef (zwR ops.toList) i j with
     |false=>rfl
     |true=>
      have:=wu hbb hCi (hCi j hb);simp at this
    rcases zcC l hch i g hj (by rw[hgd];exact ha) (by rw[hgd];exact hm) with heq|hall
    ·rw[hgd]at heq;simp only at heq;exact⟨_,hself.resolve_right (fun hh=>hh (by omega)),h',he⟩
    ·rw[hgd]at hall;obtain⟨h'',he''⟩:=hall k Hk hlo hhi hH;refine⟨_,partOf _ _ (fun b o' hb hget=>?_) (fun m hmN hmem o' hget=>?_) (fun m hmem=>zcy _ _ m hmem),h'',he''⟩
     ·rw[vU _ _ b fun j hj hh=>by have:=hhidlt i j hj;rw[hh,yB]at hb;omega]at hget;rcases zcr (zxC n0 0 0 l) Hk.t b (n0:=n0) (k:=k) with h1|⟨x,hx,_,h2,_⟩
      ·rw[←h1];exact hget
      ·obtain⟨m,q1,⟨gm,q2,_⟩,_⟩:=zez l 0 0 x X.mkeff hx;have:m<ops.size:=by rw[←X.len];exact(Lz0.1 q2).1
       rw[h2,yB,q1]at hb;omega
     ·rw[vU _ _ _ fun j hj hh=>hmem (by rw[vR hh];exact hj)]at hget;rcases zcr (zxC n0 0 0 l) Hk.t (nm n0 m) (n0:=n0) (k:=k) with h1|⟨x,hx,hkx,h2,h3⟩
      ·rw[h1]at hget;by_cases hle:k≤cmG l m
       ·rw[hkNone k Hk m hmN hH hle]at hget;cases hget
       ·show (if k≤cmG l m then _ else _)=_;rw[Yzb hle];exact hget
      ·obtain⟨m',q1,⟨gm,q2,q3,q4⟩,q5⟩:=zez l 0 0 x X.mkeff hx;rw[Yze]at q1 q4 q5;have hmm:m=m':=by rw[q1]at h2;exact vR h2
       subst hmm;rw[hget]at h3;cases h3;show (if k≤cmG l m then _ else _)=_;rw[Yzd (by omega)];unfold obG;rw[q2];simp only[q3,Yza];exact q4
   obtain⟨X',hsub,h',he⟩:=hex;have hnone:=FGn k Hk i o ho hm hH;rcases zaC (a:={ tmps:=wT φ nt g.tr,defers:=[] }) he Tr' with⟨hw,hc⟩|⟨hw,hv,hh⟩
   ·rw[Yzd (by rw[hwant];exact hw)];refine zfO C HR (ar:={ tmps:=wT φ nt g.tr,defers:=[] }) Tr' hexec (zpp P o.op hq _ _ _ _ _ _ hc hsub) ?_;intro φ2 w2 he2 H2 hv hle;exact next φ2 w2 Hk H he2.w (he2.mono (by omega)) hle (by rw[ceSame ha];exact hH) (by rw[ceSame ha];exact spcSame ha hnone) H2 hv (badK φ2 fun m hmN _ _=>he2 _ (by rw[yB];omega))
   ·rw[Yzb (by rw[hwant,hw];simp)];have:=next φ w Hk H (Ext.refl _ _).w (Ext.refl _ _) (LzB _) (by rw[ceSame ha];exact hH) (by rw[ceSame ha];exact spcSame ha hnone) HR (by rw[hv];exact fun _ hv=>by cases hv) (badK φ fun _ _ _ _=>rfl)
    rw[hv]at this;exact⟨fun f _=>trivial,this⟩
end
end Go.CE
end
section
namespace Go.CE
open Go.RowKit
section
variable {P:Program} {w0:World} {S:Nat→Prop} {nt:Nat} {call:zg}
theorem zo6(C:yT P call)(id:Nat)(ops:Array Oper):vZ P w0 S nt call (.region id ops true):=by
 intro f fn round ro φ s s2 e a w Q hc R hr hQ;have hc:(bif P.follows .mixedOrders&&zac P ops (zwR ops.toList) then zjC (zbe P nt ops) else bif P.follows .mixedOrders&&uS P ops (zwR ops.toList) then zjB (vM P nt ops) else zzc) call f fn round s=some (e,s2):=hc;cases hb:(P.follows .mixedOrders&&zac P ops (zwR ops.toList)) with
 |false=>
  rw[hb]at hc;simp only[Yzc]at hc;cases hb2:(P.follows .mixedOrders&&uS P ops (zwR ops.toList)) with
  |false=>rw[hb2]at hc;cases hc
  |true=>
   rw[hb2]at hc;obtain⟨hm,hok⟩:=zwY hb2;obtain⟨t,d,h⟩:=s;simp only[Yza,zjB]at hc;have hlen:(vM P nt ops).length=ops.size:=by
    have key:∀(os:List Oper) (i:Nat),(xf P nt ops (zwR ops.toList) (zw3 P ops.toList) i os).length=os.length:=by
     intro os
     induction os with
     |nil=>intro i;rfl
     |cons o os ih=>intro i;simp only[xf,Yzk,ih]
    unfold vM;rw[key,YyP]
   rw[hlen]at hc;cases hev:evG call h.n.toNat 0 (vM P nt ops) t ⟨bn (Nat.add h.n.toNat ops.size),h.t⟩ with
   |none=>rw[hev]at hc;cases hc
   |some p=>
    obtain⟨l,t2,h2⟩:=p;rw[hev]at hc;simp only at hc;cases hch:vV call h.n.toNat (zxC h.n.toNat 0 0 l) (⟨bn (Nat.add h.n.toNat ops.size),h.t⟩::hsG l) l with
    |false=>rw[hch]at hc;cases hc
    |true=>
     rw[hch]at hc;cases hc;have hkn:(bn (Nat.add h.n.toNat ops.size)).toNat=h.n.toNat+ops.size:=zK _;have X:=zth (P:=P) hev (fun m hm=>by
      show h.t.get (nm h.n.toNat m)=none;cases hx:h.t.get (nm h.n.toNat m) with
      |none=>rfl
      |some o=>have:=R.H.keys _ _ hx;rw[yB]at this;exact absurd this (by show ¬h.n.toNat+m<h.n.toNat;omega))
     refine wpIn_region_any hm ?_;have hz:∀i,lst (Array.replicate ops.size false) i=false:=by
      intro i;unfold lst;rw[Yzy,Array.getElem?_replicate];split<;>rfl
     have hzf:lst (Array.replicate ops.size false)=fun _=>false:=funext hz;have hfr:∀(r:List (Option BN×Zb)) (i:Nat) (t:Tr Zb),frL (fun _=>false) i r t=t:=by
      intro r
      induction r with
      |nil=>intro i t;rfl
      |cons p r ih=>intro i t;obtain⟨d,v⟩:=p;unfold frL;exact ih _ _
     have he:=zdC φ h.n.toNat ops.size;refine zk2 (hh0:=h) (φ0:=φ) C hok X hch rfl hkn (fun a2 w2 hn=>hQ a2 w2 (zau R hn)) ops.size (Array.replicate ops.size false) (zdD φ h.n.toNat ops.size) a _ ⟨bn (Nat.add h.n.toNat ops.size),h.t⟩ ⟨bn (Nat.add h.n.toNat ops.size),h.t⟩
      (by simp) (by unfold unl;simp) ?_ he ?_ ?_ (R.H.drew.keep ops.size) (by rw[hkn];omega) ?_ rfl (fun m hm _=>zm6 φ _ _ m hm)
     ·intro i hi;rw[hz]at hi;cases hi
     ·rw[hzf,zbB];rfl
     ·rw[hzf,zbB];exact⟨rfl,fun _ _=>rfl,fun m hm=>by rw[Yzb (by simp)];exact X.fresh m hm⟩
     ·rw[hzf,hfr,hkn];exact R.T.ext he (by show h.n.toNat≤_;omega)
 |true=>
  rw[hb]at hc;obtain⟨hm,hok⟩:=zwY hb;obtain⟨t,d,h⟩:=s;simp only[Yza,zjC]at hc;cases hev:evD call (zbe P nt ops) t h with
  |none=>rw[hev]at hc;cases hc
  |some p=>
   obtain⟨l,t2,hs⟩:=p;rw[hev]at hc;simp only at hc;cases hch:vW call hs l with
   |false=>rw[hch]at hc;cases hc
   |true=>
    rw[hch]at hc;cases hc;refine wpIn_region_any hm ?_;have hz:∀i,lst (Array.replicate ops.size false) i=false:=by
     intro i;unfold lst;rw[Yzy,Array.getElem?_replicate];split<;>rfl
    have hzf:lst (Array.replicate ops.size false)=fun _=>false:=funext hz;have hce:∀(es:List Bool) (i:Nat),ce (fun _=>false) i es=0:=by
     intro es
     induction es with
     |nil=>intro i;rfl
     |cons e es ih=>intro i;unfold ce;simp[ih]
    have hfr:∀(r:List (Option BN×Zb)) (i:Nat) (t:Tr Zb),frL (fun _=>false) i r t=t:=by
     intro r
     induction r with
     |nil=>intro i t;rfl
     |cons p r ih=>intro i t;obtain⟨d,v⟩:=p;unfold frL;exact ih _ _
    obtain⟨_,g2,_,_,_⟩:=zeV call _ _ _ _ _ _ hev;refine znH C hok hev hch (fun a2 w2 hn=>hQ a2 w2 (zau R hn)) ops.size (Array.replicate ops.size false) φ a _ h (by simp) (by unfold unl;simp) ?_ (Ext.refl _ _) ?_ R.H.drew (LzB _) ?_ rfl
    ·intro i hi;rw[hz]at hi;cases hi
    ·rw[hzf,hce];exact g2
    ·rw[hzf,hfr];exact R.T
end
end Go.CE
end
section
namespace Go.CE
open Go.RowKit
section
variable {P:Program} {w0:World} {S:Nat→Prop} {nt:Nat} {call:zg}
theorem zh0(C:yT P call)(c:Code):vZ P w0 S nt call c:=by
 induction c with
 |skip=>intro f fn round ro φ s s2 e a w Q hc R hr hQ;cases hc;exact wpIn_skip (hQ _ _ R.after)
 |region id ops draw=>
  cases draw with
  |false=>exact zmi C id ops
  |true=>exact zo6 C id ops
 |seq x y hx hy=>exact ztQ hx hy
 |cond c x y hx hy=>exact zrK hx hy
 |block id x hx=>exact zo7 hx
 |loop x hx=>exact zrJ hx
 |rangeFunc g ps assign body _ _=>exact zo5 C
 |exit id=>intro f fn round ro φ s s2 e a w Q hc R hr hQ;cases hc;exact wpIn_exit (hQ _ _ R.after)
 |ret=>intro f fn round ro φ s s2 e a w Q hc R hr hQ;cases hc;exact wpIn_ret (hQ _ _ R.after)
 |_=>intro f fn round ro φ s s2 e a w Q hc R hr hQ;cases hc
theorem zqi:∀(d:List BN) (h h2:Za),shut d h=some h2→h2.n=h.n
 | [],h,h2,e=>by cases e;rfl
 |b::d,h,h2,e=>by
  unfold shut at e;split at e
  ·exact(zqi d _ _ e).trans rfl
  ·cases e
theorem zm1{φ:Phi}{fn:Func}{tmps:Array Value}{R:Ending→World→Prop}{h2:Za}(hR:∀w2,Zd w0 S φ h2 w2→LeavesIn (FR none) 0 P fn tmps R [] .returning w2):
  ∀(d:List BN) (h:Za) (w:World),shut d h=some h2→Zd w0 S φ h w→LeavesInM (FR none) 0 P fn tmps R (marks φ d) .returning w
 | [],h,w,e,H=>by cases e;exact hR w H
 |b::d,h,w,e,H=>by
  unfold shut at e;split at e
  ·rename_i hb;have g1:w.heap[(φ b).blk]? = some (.deferred (some [])):=H.obj b _ hb;refine⟨by simp,.inl ⟨(φ b).blk,_,rfl,run_takeDeferred g1,?_⟩⟩;refine zm1 hR d _ _ e ?_;exact H.put hb trivial (fun k hk=>World.putObj_heap_other hk) (by simp) rfl rfl rfl trivial
  ·cases e
def zyz(tmps:Array Value):ResultVar→Sem Value
 | .tmp t=>pure (tmps.getD t undef)
 | .cell a t=>do loadVar t (←asAddr (tmps.getD a undef))
theorem zf8{φ:Phi}{n:Nat}{t:Tr Zb}{tmps:Array Value}(T:Zi φ nt n t tmps){i:Nat}{v:Zb}(hi:t.get (bn i)=some v):tmps.getD i undef=zq φ v∧wfA φ n v:=by
 have hlt:i<nt:=by
  apply Decidable.byContradiction;intro hn;rw[T.out i (by omega)]at hi;cases hi
 have:=T.get i hlt;rw[hi]at this;refine⟨?_,T.wf _ _ hi⟩;rw[Yzy,this];rfl
theorem zdM{t:Tr Zb}{h:Za}{r:BN×Option (Option Nat)}{rs:List (BN×Option (Option Nat))}{vs:List SVal}(e:jM t h (r::rs)=some vs):
  ∃v vs',vs=v::vs'∧zdN t h r=some v∧jM t h rs=some vs':=by
 unfold jM at e;split at e
 ·rename_i v hv;unfold wo at e;split at e
  ·rename_i vs' hvs;cases e;exact⟨v,vs',rfl,hv,hvs⟩
  ·cases e
 ·cases e
theorem jh{φ:Phi}{h:Za}{w:World}{t:Tr Zb}{tmps:Array Value}(H:Zd w0 S φ h w)(T:Zi φ nt h.n.toNat t tmps):∀(l:List ResultVar) (rs:List (BN×Option (Option Nat))) (vs:List SVal),
  zxu P l=some rs→jM t h rs=some vs→(l.mapM (zyz tmps)).run P w=.ok (vs.map (zI φ)) w∧∀v∈vs,wfS φ h.n.toNat v
 | [],rs,vs,hc,he=>by
  cases hc;cases he;exact⟨by simp,fun v hv=>by cases hv⟩
 | .tmp i::l,rs,vs,hc,he=>by
  unfold zxu at hc;split at hc
  ·rename_i rs' hrs;cases hc;obtain⟨v1,vs',rfl,hv1,hvs⟩:=zdM he;simp only[zdN]at hv1;split at hv1
   ·rename_i u hu;cases hv1;obtain⟨h1,h2⟩:=jh H T l rs' vs' hrs hvs;obtain⟨g1,g2⟩:=zf8 T hu;refine⟨?_,fun v hv=>?_⟩
    ·rw[List.mapM_cons];simp only[zyz,Sem.run_bind,Sem.run_pure,Result.andThen_ok,h1,g1];rfl
    ·cases hv with
     |head=>exact g2
     |tail _ hm=>exact h2 v hm
   ·cases hv1
  ·cases hc
 | .cell i ty::l,rs,vs,hc,he=>by
  unfold zxu at hc;split at hc
  ·rename_i n rs' hn hrs;cases hc;obtain⟨v1,vs',rfl,hv1,hvs⟩:=zdM he;simp only[zdN]at hv1;split at hv1
   ·rename_i b off hu;obtain⟨h1,h2⟩:=jh H T l rs' vs' hrs hvs;obtain⟨g1,g2⟩:=zf8 T hu;have key:(loadVar ty (adr φ b off)).run P w=.ok (zI φ v1) w∧wfS φ h.n.toNat v1:=by
     unfold uH at hv1;split at hv1
     ·rename_i cs st hb;have hp:part n cs off h=some (.s v1,h):=by
       cases n with
       |none=>
        simp only at hv1;split at hv1
        ·rename_i c hcc;cases hv1;simp[part,zw8,hcc]
        ·cases hv1
       |some n=>
        simp only at hv1;split at hv1
        ·rename_i c hcc;cases hv1;simp[part,zxr,hcc]
        ·cases hv1
      obtain⟨k1,k2,_⟩:=zch (P:=P) H hn hb hp;exact⟨k1,k2⟩
     ·cases hv1
    refine⟨?_,fun v hv=>?_⟩
    ·rw[List.mapM_cons];simp only[zyz,Sem.run_bind,g1,zq,zI,zj,asAddr,Sem.run_pure,Result.andThen_ok,key.1,h1];rfl
    ·cases hv with
     |head=>exact key.2
     |tail _ hm=>exact h2 v hm
   ·cases hv1
  ·cases hc
theorem zko(fn:Func)(tmps:Array Value):results fn tmps=(do
  let vs ←fn.results.toList.mapM (zyz tmps)
  pure (match vs with | [v]=>v|vs=>.tuple vs.toArray)):=by
 have:fn.results.mapM (zyz tmps)=List.toArray <$> fn.results.toList.mapM (zyz tmps):=by
  rw[←List.mapM_toArray]
 have e:results fn tmps=(do
   let vs ←fn.results.mapM (zyz tmps)
   pure (if h:vs.size=1 then vs[0] else .tuple vs)):=by
  unfold results
  congr 1
 rw[e,this,map_eq_pure_bind,bind_assoc]
 congr 1
 funext vs
 rw[pure_bind]
 congr 1
 match vs with
 | []=>rfl
 | [v]=>rfl
 |v::u::vs=>rfl
theorem zkn{φ:Phi}{h:Za}{w:World}{t:Tr Zb}{tmps:Array Value}(H:Zd w0 S φ h w)(T:Zi φ nt h.n.toNat t tmps){fn:Func}{rs:List (BN×Option (Option Nat))}(hc:zxu P fn.results.toList=some rs)
  {v:Zb} {h2:Za} (he:zcu h (jM t h rs)=some (v,h2)):(results fn tmps).run P w=.ok (zq φ v) w∧wfA φ h.n.toNat v∧h2=h:=by
 cases hv:jM t h rs with
 |none=>rw[hv]at he;cases he
 |some vs=>
  rw[hv]at he;obtain⟨h1,hw⟩:=jh H T _ rs vs hc hv;rw[zko,Sem.run_bind,h1]
  match vs,he,hw with
  | [],he,hw=>cases he;exact⟨rfl,(fun v hv=>by cases hv),rfl⟩
  | [u],he,hw=>cases he;exact⟨rfl,hw u (by simp),rfl⟩
  |u::u'::vs,he,hw=>cases he;exact⟨rfl,hw,rfl⟩
theorem zaD:∀(args:List Zb) (i:Nat) (t:Tr Zb) (j:Nat),(wt (bn i) t args).get (bn j)=if j<i then t.get (bn j) else(args[j-i]?).or (t.get (bn j))
 | [],i,t,j=>by simp[wt]
 |v::vs,i,t,j=>by
  unfold wt;rw[qo,zaD vs (i+1) _ j];by_cases h1:j<i
  ·rw[Yzd h1,Yzd (by omega),zp _ _ _ _ (fun hh=>by have:=u4 hh;omega)]
  ·rw[Yzb h1];by_cases h2:j=i
   ·subst h2;rw[Yzd (by omega),zz];simp
   ·rw[Yzb (by omega),zp _ _ _ _ (fun hh=>by have:=u4 hh;omega)];have:j-i=(j-(i+1))+1:=by omega
    rw[this,Yzl]
theorem zpV{φ:Phi}{n nt:Nat}{args:List Zb}(hl:args.length≤nt)(hw:∀x∈args,wfA φ n x):
  Zi φ nt n (wt .z .nil args) ((args.map (zq φ)).toArray++Array.replicate (nt-(args.map (zq φ)).toArray.size) undef):=by
 have key:∀j,(wt .z .nil args).get (bn j)=args[j]?:=by
  intro j;have:=zaD args 0 .nil j;simp only[YyE,if_false,Nat.sub_zero]at this;have e0:bn 0=.z:=rfl;rw[e0]at this;rw[this];have:(Tr.nil:Tr Zb).get (bn j)=none:=by cases bn j<;>rfl
  rw[this];simp
 refine⟨by simp;omega,fun i hi=>?_,fun i hi=>?_,fun i v hv=>?_⟩
 ·rw[key];by_cases hlt:i<args.length
  ·rw[Yyl (by simpa using hlt)];simp[hlt]
  ·rw[Array.getElem?_append_right (by simp;omega)];have:args[i]? = none:=by simp;omega
   rw[this];simp only[List.size_toArray,Yzj,Option.getD_none];rw[Array.getElem?_replicate,Yzd (by omega)];rfl
 ·rw[key];simp;omega
 ·rw[←zY i,key]at hv;exact hw v (Lz3 hv)
theorem zh4{g:Nat}{fn:Func}{c:Code}(hf:P.funcs[g]? = some fn)(hb:fn.body=some c)(hn:(fn.name == "runtime.NumGoroutine")=false)(as:Array Value)(w:World):(callFunc g as).run P w=.ok (.enter g as) w:=by
 simp only[callFunc,Sem.run_bind,run_program,Result.andThen,hf,hn,hb];rfl
theorem znW{fn:Func}{r:Zl}(h:zh5 P fn=some r):∃c rs,fn.body=some c∧zxu P fn.results.toList=some rs∧(fn.name == "runtime.NumGoroutine")=false∧r=⟨fn.ntmps,rs,zX P fn.ntmps c⟩:=by
 unfold zh5 at h;split at h
 ·rename_i c rs hb hr;cases hn:fn.name == "runtime.NumGoroutine" with
  |true=>rw[hn]at h;cases h
  |false=>rw[hn]at h;cases h;exact⟨c,rs,hb,hr,rfl,rfl⟩
 ·cases h
def zyv(P:Program)(fs:Nat→Option Zl):Prop:=∀g r,fs g=some r→∃fn,P.funcs[g]? = some fn∧zh5 P fn=some r
theorem zut(C:yT P call){fs:Nat→Option Zl}(hfs:zyv P fs){f g:Nat}{φ:Phi}{h h2:Za}{w:World}{args:List Zb}{v:Zb}(H:Zd w0 S φ h w)(hw:∀x∈args,wfA φ h.n.toNat x)
  (e:znx fs call f g args h=some (v,h2)):(∀as w,(callFunc g as).run P w=.ok (.enter g as) w)∧CallsIn (FR none) 0 P g (args.map (zq φ)).toArray w (Ret w0 S φ h v h2):=by
 unfold znx at e;split at e
 ·rename_i ntmps rs body hfg;obtain⟨fn,hf,hcf⟩:=hfs g _ hfg;obtain⟨c,rs',hb,hrs,hname,hr⟩:=znW hcf;cases hr;refine⟨zh4 hf hb hname,?_⟩;cases hl:zyi args fn.ntmps with
  |false=>rw[hl]at e;cases e
  |true=>
   rw[hl]at e;simp only[Yza]at e;cases hbody:zX P fn.ntmps c call f g none ⟨wt .z .nil args,[],h⟩ with
   |none=>rw[hbody]at e;cases e
   |some p=>
    obtain⟨ex,t1,d1,h1⟩:=p;rw[hbody]at e;refine callsIn_of_wp_marks hf hb trivial (zh0 C c f g none none φ _ _ ex _ w _ hbody ⟨H,zpV (zm0 _ _ hl) hw,rfl,fun b hb=>by cases hb⟩ rfl fun a2 w2 hA=>?_) rfl;obtain⟨φ2,he2,⟨H2,T2,D2,dn2⟩,hle⟩:=hA;simp only at H2 T2 D2 dn2 he2 hle;have key:leave rs (some (.normal,⟨t1,d1,h1⟩))=some (v,h2)→LeavesInM (FR none) 0 P fn a2.tmps (Ret w0 S φ h v h2) a2.defers .returning w2:=by
     intro e;simp only[leave]at e;split at e
     ·rename_i h3 hs;rw[D2];refine zm1 (fun w3 H3=>?_) d1 h1 w2 hs H2;have hn3:=zqi _ _ _ hs;have T3:Zi φ2 fn.ntmps h3.n.toNat t1 a2.tmps:=by rw[hn3];exact T2
      obtain⟨k1,k2,rfl⟩:=zkn H3 T3 hrs e;exact⟨_,k1,φ2,rfl,he2,H3,k2,by rw[hn3];exact hle⟩
     ·cases e
    cases ex with
    |normal=>exact key e
    |exit id=>cases e
    |ret=>exact key e
 ·cases e
theorem ziv{φ:Phi}{n:Nat}:∀(ps:List Nat) (args:List Zb) (t t2:Tr Zb) (arr:Array Value),zoL nt t ps args=some t2→Zi φ nt n t arr→(∀x∈args,wfA φ n x)→
  Zi φ nt n t2 ((ps.zip (args.map (zq φ))).foldl (fun t (p:Nat×Value)=>t.setIfInBounds p.1 p.2) arr)∧args.length=ps.length
 | [],[],t,t2,arr,e,T,hw=>by cases e;exact⟨T,rfl⟩
 |p::ps,v::vs,t,t2,arr,e,T,hw=>by
  unfold zoL at e;cases hp:Nat.ble (Nat.succ p) nt with
  |false=>rw[hp]at e;cases e
  |true=>
   rw[hp]at e;simp only[Yza]at e;have T2:=Zi.put (a:={ tmps:=arr,defers:=[] }) T (hw v (by simp)) (some p) hp;obtain⟨k1,k2⟩:=ziv ps vs _ t2 _ e T2 fun x hx=>hw x (by simp[hx]);exact⟨k1,by simp[k2]⟩
 | [],_::_,t,t2,arr,e,T,hw=>by cases e
 |_::_,[],t,t2,arr,e,T,hw=>by cases e
theorem zoU(C:yT P call){f:Nat}{l:BN}{φ:Phi}{h h2:Za}{w:World}{args:List Zb}{v:Zb}(H:Zd w0 S φ h w)(hw:∀x∈args,wfA φ h.n.toNat x)
  (e : zhJ (zX P) call f l args h = some (v, h2)) : ∃ f tmps assign body, (Instr.yield (φ l).blk (args.map (zq φ)).toArray).run P w = .ok (.round (φ l).blk f tmps assign body) w ∧
   RoundIn (FR none) 0 P (φ l).blk f tmps assign body w (Ret w0 S φ h v h2):=by
 unfold zhJ at e;split at e
 ·rename_i pend lf ln lt lps la lb ld hl;split at e
  ·rename_i t ht;obtain⟨arr,f8,g1,g2,g3⟩:=H.obj l _ hl;have hln:=H.okk _ _ hl;obtain⟨T,hlen⟩:=ziv _ _ _ _ arr ht g2 hw;refine⟨f8,_,la,lb,run_yield g1 (by simp[hlen]),?_⟩;have harr:((lps.zip (args.map (zq φ)).toArray).foldl (fun tmps (x:Nat×Value)=>tmps.setIfInBounds x.1 x.2) arr)=((lps.toList.zip (args.map (zq φ))).foldl (fun t (p:Nat×Value)=>t.setIfInBounds p.1 p.2) arr):=by
    rw[←Array.foldl_toList,Array.toList_zip]
   split at e
   ·rename_i t1 d1 h1 has;split at e
    ·rename_i h3 hbe;refine roundIn_of_wpIn trivial ?_;refine zh0 C la f lf (some l) (some (φ l).blk) φ ⟨t,[],h⟩ ⟨t1,d1,h1⟩ .normal _ w _ has ⟨H,?_,rfl,fun b hb=>by cases hb⟩ ⟨rfl,hln⟩ fun a1 w1 hA=>?_
     ·show Zi φ ln h.n.toNat t _;rw[harr];exact T
     ·obtain⟨φ1,he1,⟨H1,T1,D1,dn1⟩,hle1⟩:=hA;simp only at H1 T1 D1 dn1 he1 hle1;unfold zqR at hbe;split at hbe
      ·rename_i p9 lf9 ln9 lt9 lps9 la9 lb9 ld9 hl9;cases hbe;obtain⟨arr9,f9,k1,k2,k3⟩:=H1.obj l _ hl9;have el:φ1 l=φ l:=he1 l hln.1;have hlt:(φ1 l).blk<w1.heap.size:=(Lz7.1 k1).1;have H3:Zd w0 S φ1 (h1.put l (.loop .busy p9 lf9 ln9 lt9 lps9 la9 lb9 ld9)) (w1.putObj (φ1 l).blk (.loop { state:=.busy,pending:=p9.map za5,fn:=f9,tmps:=arr9,params:=lps9,assign:=la9,body:=lb9,defers:=(φ1 ld9).blk })):=
        H1.put hl9 trivial (fun k hk=>World.putObj_heap_other hk) (by simp) rfl rfl rfl ⟨arr9,f9,World.putObj_heap_same hlt,k2,k3⟩
       have hbr:=run_beginRound (P:=P) k1 rfl;rw[el]at hbr;refine⟨_,hbr,?_⟩;rw[el]at H3;cases hbd:zX P ln lb call f lf (some l) ⟨t1,d1,h1.put l (.loop .busy p9 lf9 ln9 lt9 lps9 la9 lb9 ld9)⟩ with
       |none=>rw[hbd]at e;cases e
       |some p=>
        obtain⟨ex,t4,d4,h4⟩:=p;rw[hbd]at e;refine zh0 C lb f lf (some l) (some (φ l).blk) φ1 _ _ ex a1 _ _ hbd ⟨H3,T1,D1,dn1⟩ ⟨by rw[el],okB.ext he1 hle1 hln⟩ fun a5 w5 hA5=>?_;obtain⟨φ5,he5,⟨H5,T5,D5,dn5⟩,hle5⟩:=hA5;simp only[zoW]at H5 T5 D5 dn5 he5 hle5;cases d4 with
        |cons b d=>cases e
        |nil=>
         simp only[zqE,zAC]at e;split at e
         ·rename_i s6 p6 lf6 ln6 lt6 lps6 la6 lb6 ld6 hl6;obtain⟨arr6,f6,m1,m2,m3⟩:=H5.obj l _ hl6;have el5:φ5 l=φ l:=(he5 l (okB.ext he1 hle1 hln).1).trans el;rw[el5]at m1;have hlt5:(φ l).blk<w5.heap.size:=(Lz7.1 m1).1;have hE:Ext h.n.toNat φ φ5:=he1.trans he5 hle1;have fin:∀(j:Option Zh) (st:LoopState),st=(if (j.map za5).isNone then .ready else .done)→Zd w0 S φ5 (h4.put l (.loop st j lf6 ln6 lt6 lps6 la6 lb6 ld6)) (w5.putObj (φ l).blk (.loop { state:=if (j.map za5).isNone then .ready else .done,pending:=j.map za5,fn:=f6,tmps:=arr6,params:=lps6,assign:=la6,body:=lb6,defers:=(φ5 ld6).blk })):=by
           intro j st hst;subst hst;refine H5.put hl6 trivial (fun k hk=>?_) (by simp) rfl rfl rfl ⟨arr6,f6,?_,m2,m3⟩
           ·rw[el5]at hk;exact World.putObj_heap_other hk
           ·rw[el5];exact World.putObj_heap_same hlt5
          cases ex with
          |normal=>
           cases e;exact⟨_,_,run_endRound none m1,φ5,rfl,hE,fin none .ready rfl,trivial,YzA hle1 hle5⟩
          |exit id=>
           cases e;exact⟨_,_,run_endRound (some (.exit id)) m1,φ5,rfl,hE,fin (some (.exit id)) .done rfl,trivial,YzA hle1 hle5⟩
          |ret=>
           cases e;exact⟨_,_,run_endRound (some .ret) m1,φ5,rfl,hE,fin (some .ret) .done rfl,trivial,YzA hle1 hle5⟩
         ·cases e
      ·cases hbe
    ·cases e
   ·cases e
  ·cases e
 ·cases e
theorem zfe(C:yT P call){fs:Nat→Option Zl}(hfs:zyv P fs)(f:Nat):yT P (zba (zX P) fs call f):=
 fun _ _ _ _ _ _ _ _ H hw=>⟨fun _ e=>zut C hfs H hw e,fun _ e=>zoU C H hw e⟩
theorem zey:yT P (fun _ _ _=>none):=
 fun _ _ _ _ _ _ _ _ _ _=>⟨fun _ e=>(by cases e),fun _ e=>(by cases e)⟩
theorem znS{fs:Nat→Option Zl}(hfs:zyv P fs):∀n,yT P (zqL (zX P) fs n)
 |0=>zey
 |n+1=>zfe (znS hfs n) hfs n
theorem vh{α:Type}:∀(l:List α) (i:Nat) (t:Tr α) (j:Nat),(Tr.ofList (bn i) l t).get (bn j)=if j<i then t.get (bn j) else(l[j-i]?).or (t.get (bn j))
 | [],i,t,j=>by simp[Tr.ofList]
 |v::vs,i,t,j=>by
  unfold Tr.ofList;rw[qo,vh vs (i+1) _ j];by_cases h1:j<i
  ·rw[Yzd h1,Yzd (by omega),zp _ _ _ _ (fun hh=>by have:=u4 hh;omega)]
  ·rw[Yzb h1];by_cases h2:j=i
   ·subst h2;rw[Yzd (by omega),zz];simp
   ·rw[Yzb (by omega),zp _ _ _ _ (fun hh=>by have:=u4 hh;omega)];have:j-i=(j-(i+1))+1:=by omega
    rw[this,Yzl]
theorem zbS(P:Program):zyv P (cFs (xm P)):=by
 intro g r h;unfold cFs xm at h;have e0:BN.z=bn 0:=rfl;rw[e0,vh]at h;have:(Tr.nil:Tr (Option Zl)).get (bn g)=none:=by cases bn g<;>rfl
 rw[this]at h;simp only[YyE,if_false,Nat.sub_zero,Option.or_none,Lz6,LzA]at h;cases hg:P.funcs[g]? with
 |none=>rw[hg]at h;cases h
 |some fn=>
  rw[hg]at h;exact⟨fn,rfl,h⟩
end
end Go.CE
end
section
namespace Go.CE
open Go.RowKit
noncomputable section
structure Mt where
 ρ:Tr BN
 inv:Tr BN
 work:List (BN×BN)
def mB(b b':BN)(m:Mt):Option Mt:=
 match m with
 |⟨ρ,inv,work⟩=>
  match ρ.get b with
  |some b''=>bif zxL b'' b' then some ⟨ρ,inv,work⟩ else none
  |none=>
   match inv.get b' with
   |some _=>none
   |none=>some ⟨ρ.set b b',inv.set b' b,(b,b')::work⟩
def xD:Zc→Bool
 | .bool _ | .int _ _ | .str _ | .nilp | .nils | .nilm | .nilf | .nili=>true
 |_=>false
def mC(m:Mt)(c c':Zc):Option Mt:=
 match c with
 | .ptr b o=>
  match c' with
  | .ptr b' o'=>bif Nat.beq o o' then mB b b' m else none
  |_=>none
 | .slc b o l k e=>
  match c' with
  | .slc b' o' l' k' e'=>bif Nat.beq o o'&&Nat.beq l l'&&Nat.beq k k'&&eqB e e' then mB b b' m else none
  |_=>none
 |c=>bif xD c&&eqV c c' then some m else none
def mCs:List Zc→List Zc→Mt→Option Mt
 | [],[],m=>some m
 |c::cs,c'::cs',m=>
  match mC m c c' with
  |some m'=>mCs cs cs' m'
  |none=>none
 |_,_,_=>none
def mS(m:Mt):SVal→SVal→Option Mt
 | .one c,.one c'=>mC m c c'
 | .agg cs,.agg cs'=>mCs cs cs' m
 |_,_=>none
def mA:List Zb→List Zb→Mt→Option Mt
 | [],[],m=>some m
 | .s v::vs,.s v'::vs',m=>
  match mS m v v' with
  |some m'=>mA vs vs' m'
  |none=>none
 |_,_,_=>none
def zkG(hc h:Za):Nat→Mt→Option (Tr BN)
 |0,_=>none
 |f+1,⟨ρ,inv,work⟩=>
  match work with
  | []=>some ρ
  |(b,b')::ws=>
   match hc.t.get b,h.t.get b' with
   |some (.cells cs st),some (.cells cs' st')=>
    bif Nat.beq st st' then
     match mCs cs cs' ⟨ρ,inv,ws⟩ with
     |some m'=>zkG hc h f m'
     |none=>none
    else none
   |_,_=>none
structure Sum where
 g:Nat
 args:List Zb
 objs:List Ze
 res:Zb
def Sum.heap(s:Sum):Za:=⟨bn s.objs.length,Tr.ofList .z s.objs .nil⟩
def zyl(ρ:Tr BN):BN→List Ze→Bool
 |_,[]=>true
 |i,_::l=>
  match ρ.get i with
  |some _=>zyl ρ i.succ l
  |none=>false
def Sum.fits(s:Sum)(args:List Zb)(h:Za):Bool:=
 match mA s.args args ⟨.nil,.nil,[]⟩ with
 |some m=>
  match zkG s.heap h (Nat.succ s.objs.length) m with
  |some ρ=>zyl ρ .z s.objs
  |none=>false
 |none=>false
def ziM:SVal→Bool
 | .one c=>xD c
 | .agg cs=>cs.all xD
def wx:Zb→Bool
 | .s v=>ziM v
 | .tup vs=>vs.all ziM
def zlJ(h2:Za):BN→List Ze→Bool
 |_,[]=>true
 |i,.cells cs st::l=>
  match h2.t.get i with
  |some (.cells cs' st')=>zyM cs cs'&&Nat.beq st st'&&zlJ h2 i.succ l
  |_=>false
 |_,_::_=>false
def Sum.chk(call:zg)(s:Sum):Bool:=
 match call (.inl s.g) s.args s.heap with
 |some (v,h2)=>eqA s.res v&&wx s.res&&zlJ h2 .z s.objs
 |none=>false
def wh(g:Nat)(args:List Zb)(h:Za):List Sum→Option Zb
 | []=>none
 |s::l=>bif Nat.beq g s.g&&s.fits args h then some s.res else wh g args h l
def zcT(sums:List Sum)(call:zg):zg
 | .inl g,args,h=>
  match wh g args h sums with
  |some v=>some (v,h)
  |none=>call (.inl g) args h
 | .inr l,args,h=>call (.inr l) args h
def zhK(cc:Nat→Code→xt)(fs:Nat→Option Zl)(sums:List Sum)(n:Nat):zg:=
 Nat.rec (motive:=fun _=>zg) (fun _ _ _=>none) (fun f ih=>zcT sums (zba cc fs ih f)) n
def isTrue:Res→Bool
 |some (.s (.one (.bool b)),_)=>b
 |_=>false
end
theorem zkR{r:Res}(h:isTrue r=true):∃h2,r=some (.s (.one (.bool true)),h2):=by
 unfold isTrue at h;split at h
 ·subst h;exact⟨_,rfl⟩
 ·cases h
def RC(ρ:Tr BN):Zc→Zc→Prop
 | .ptr b o,c'=>∃b',c'=.ptr b' o∧ρ.get b=some b'
 | .slc b o l k e,c'=>∃b',c'=.slc b' o l k e∧ρ.get b=some b'
 |c,c'=>xD c=true∧c'=c
def Sub(ρ ρ':Tr BN):Prop:=∀b b',ρ.get b=some b'→ρ'.get b=some b'
theorem Sub.refl(ρ:Tr BN):Sub ρ ρ:=fun _ _ h=>h
theorem Sub.trans{a b c:Tr BN}(h:Sub a b)(k:Sub b c):Sub a c:=fun _ _ hh=>k _ _ (h _ _ hh)
theorem RC.mono{ρ ρ':Tr BN}(hs:Sub ρ ρ'){c c':Zc}(h:RC ρ c c'):RC ρ' c c':=by
 cases c with
 |ptr b o=>obtain⟨b',h1,h2⟩:=h;exact⟨b',h1,hs _ _ h2⟩
 |slc b o l k e=>obtain⟨b',h1,h2⟩:=h;exact⟨b',h1,hs _ _ h2⟩
 |_=>exact h
def RCs(ρ:Tr BN)(cs cs':List Zc):Prop:=cs'.length=cs.length∧∀(i:Nat) (c:Zc),cs[i]? = some c→∃c',cs'[i]? = some c'∧RC ρ c c'
theorem RCs.mono{ρ ρ':Tr BN}(hs:Sub ρ ρ'){cs cs':List Zc}(h:RCs ρ cs cs'):RCs ρ' cs cs':=
 ⟨h.1,fun i c hc=>by obtain⟨c',h1,h2⟩:=h.2 i c hc;exact⟨c',h1,h2.mono hs⟩⟩
def RS(ρ:Tr BN):SVal→SVal→Prop
 | .one c,v=>∃c',v=.one c'∧RC ρ c c'
 | .agg cs,v=>∃cs',v=.agg cs'∧RCs ρ cs cs'
theorem RS.mono{ρ ρ':Tr BN}(hs:Sub ρ ρ'){v v':SVal}(h:RS ρ v v'):RS ρ' v v':=by
 cases v with
 |one c=>obtain⟨c',h1,h2⟩:=h;exact⟨c',h1,h2.mono hs⟩
 |agg cs=>obtain⟨cs',h1,h2⟩:=h;exact⟨cs',h1,h2.mono hs⟩
structure MI (D:BN→BN→Prop) (hc h:Za) (m:Mt):Prop where
 inv:∀b b',m.ρ.get b=some b'→m.inv.get b'=some b
 pairs:∀b b',m.ρ.get b=some b'→(b,b')∈m.work∨D b b'∨∃cs cs' st,hc.t.get b=some (.cells cs st)∧h.t.get b'=some (.cells cs' st)∧RCs m.ρ cs cs'
section
variable {D:BN→BN→Prop} {hc h:Za}
theorem zrY{m m':Mt}{b b':BN}(I:MI D hc h m)(e:mB b b' m=some m'):MI D hc h m'∧Sub m.ρ m'.ρ∧m'.ρ.get b=some b':=by
 obtain⟨ρ,inv,work⟩:=m;unfold mB at e;simp only at e;split at e
 ·rename_i b'' hb;cases hq:zxL b'' b' with
  |false=>rw[hq]at e;cases e
  |true=>
   rw[hq]at e;cases e;rw[jQ hq]at hb;exact⟨I,Sub.refl _,hb⟩
 ·rename_i hb;split at e
  ·cases e
  ·rename_i hi;cases e;have hsub:Sub ρ (ρ.set b b'):=by
    intro x y hx;have:x≠b:=fun hh=>by subst hh;rw[hb]at hx;cases hx
    rw[zp _ _ _ _ this];exact hx
   refine⟨⟨fun x y hx=>?_,fun x y hx=>?_⟩,hsub,zz _ _ _⟩
   ·show (inv.set b' b).get y=some x;by_cases hxb:x=b
    ·subst hxb;have:y=b':=by
      have hx:(ρ.set x b').get x=some y:=hx;rw[zz]at hx;exact(Option.some.inj hx).symm
     subst this;exact zz _ _ _
    ·have hx:(ρ.set b b').get x=some y:=hx;rw[zp _ _ _ _ hxb]at hx;have h1:=I.inv x y hx;have:y≠b':=fun hh=>by subst hh;rw[hi]at h1;cases h1
     rw[zp _ _ _ _ this];exact h1
   ·by_cases hxb:x=b
    ·subst hxb;have:y=b':=by
      have hx:(ρ.set x b').get x=some y:=hx;rw[zz]at hx;exact(Option.some.inj hx).symm
     subst this;exact .inl (Yzi ..)
    ·have hx:(ρ.set b b').get x=some y:=hx;rw[zp _ _ _ _ hxb]at hx;rcases I.pairs x y hx with h1|h1|⟨cs,cs',st,h1,h2,h3⟩
     ·exact .inl (Yzf _ h1)
     ·exact .inr (.inl h1)
     ·exact .inr (.inr ⟨cs,cs',st,h1,h2,h3.mono hsub⟩)
theorem zt8{m m':Mt}{c c':Zc}(I:MI D hc h m)(e:mC m c c'=some m'):MI D hc h m'∧Sub m.ρ m'.ρ∧RC m'.ρ c c':=by
 have rest:(bif xD c&&eqV c c' then some m else none)=some m'→(xD c=true→RC m'.ρ c c'∨True)→MI D hc h m'∧Sub m.ρ m'.ρ∧xD c=true∧c'=c:=by
  intro e _;cases hq:(xD c&&eqV c c') with
  |false=>rw[hq]at e;cases e
  |true=>
   rw[hq]at e;cases e;obtain⟨h1,h2⟩:=zwY hq;exact⟨I,Sub.refl _,h1,(zny h2).symm⟩
 cases c with
 |ptr b o=>
  cases c' with
  |ptr b' o'=>
   simp only[mC]at e;cases hq:Nat.beq o o' with
   |false=>rw[hq]at e;cases e
   |true=>
    rw[hq]at e;obtain⟨h1,h2,h3⟩:=zrY I e;exact⟨h1,h2,b',by rw[beq_true hq],h3⟩
  |_=>cases e
 |slc b o l k x=>
  cases c' with
  |slc b' o' l' k' x'=>
   simp only[mC]at e;cases hq:(Nat.beq o o'&&Nat.beq l l'&&Nat.beq k k'&&eqB x x') with
   |false=>rw[hq]at e;cases e
   |true=>
    rw[hq]at e;obtain⟨h1,h2,h3⟩:=zrY I e;obtain⟨q1,q2⟩:=zwY hq;obtain⟨q1,q3⟩:=zwY q1;obtain⟨q1,q4⟩:=zwY q1;exact⟨h1,h2,b',by rw[beq_true q1,beq_true q4,beq_true q3,znF q2],h3⟩
  |_=>cases e
 |_=>exact rest e (fun _=>.inr trivial)
theorem zmU:∀(cs cs':List Zc) (m m':Mt),MI D hc h m→mCs cs cs' m=some m'→MI D hc h m'∧Sub m.ρ m'.ρ∧RCs m'.ρ cs cs'
 | [],[],m,m',I,e=>by cases e;exact⟨I,Sub.refl _,rfl,fun i c hc=>by simp at hc⟩
 |c::cs,c'::cs',m,m',I,e=>by
  unfold mCs at e;split at e
  ·rename_i m1 h1;obtain⟨I1,s1,r1⟩:=zt8 I h1;obtain⟨I2,s2,r2⟩:=zmU cs cs' m1 m' I1 e;refine⟨I2,s1.trans s2,by simp[r2.1],fun i x hx=>?_⟩;cases i with
   |zero=>
    simp only[Yzg,Option.some.injEq]at hx;subst hx;exact⟨c',rfl,r1.mono s2⟩
   |succ i=>
    simp only[Yzl]at hx ⊢;exact r2.2 i x hx
  ·cases e
 | [],_::_,m,m',I,e=>by cases e
 |_::_,[],m,m',I,e=>by cases e
theorem zt7{m m':Mt}{v v':SVal}(I:MI D hc h m)(e:mS m v v'=some m'):MI D hc h m'∧Sub m.ρ m'.ρ∧RS m'.ρ v v':=by
 cases v with
 |one c=>
  cases v' with
  |one c'=>obtain⟨h1,h2,h3⟩:=zt8 I e;exact⟨h1,h2,c',rfl,h3⟩
  |agg cs'=>cases e
 |agg cs=>
  cases v' with
  |one c'=>cases e
  |agg cs'=>obtain⟨h1,h2,h3⟩:=zmU _ _ _ _ I e;exact⟨h1,h2,cs',rfl,h3⟩
def RAs(ρ:Tr BN):List Zb→List Zb→Prop
 | [],[]=>True
 | .s v::vs,.s v'::vs'=>RS ρ v v'∧RAs ρ vs vs'
 |_,_=>False
theorem RAs.mono{ρ ρ':Tr BN}(hs:Sub ρ ρ'):∀{vs vs':List Zb},RAs ρ vs vs'→RAs ρ' vs vs'
 | [],[],_=>trivial
 | .s _::_,.s _::_,h=>⟨h.1.mono hs,RAs.mono hs h.2⟩
 | [],_::_,h=>h.elim
 | .tup _::_,_,h=>by cases h
 | .s _::_,[],h=>by cases h
 | .s _::_,.tup _::_,h=>by cases h
theorem zpv:∀(vs vs':List Zb) (m m':Mt),MI D hc h m→mA vs vs' m=some m'→MI D hc h m'∧Sub m.ρ m'.ρ∧RAs m'.ρ vs vs'
 | [],[],m,m',I,e=>by cases e;exact⟨I,Sub.refl _,trivial⟩
 | .s v::vs,.s v'::vs',m,m',I,e=>by
  unfold mA at e;split at e
  ·rename_i m1 h1;obtain⟨I1,s1,r1⟩:=zt7 I h1;obtain⟨I2,s2,r2⟩:=zpv vs vs' m1 m' I1 e;exact⟨I2,s1.trans s2,r1.mono s2,r2⟩
  ·cases e
 | [],_::_,m,m',I,e=>by cases e
 | .tup _::_,_,m,m',I,e=>by unfold mA at e;cases e
 | .s _::_,[],m,m',I,e=>by cases e
 | .s _::_,.tup _::_,m,m',I,e=>by cases e
theorem zbu:∀(f:Nat) (m:Mt) (ρ:Tr BN),MI (fun _ _=>False) hc h m→zkG hc h f m=some ρ→∃inv,MI (fun _ _=>False) hc h ⟨ρ,inv,[]⟩∧Sub m.ρ ρ
 |0,m,ρ,I,e=>by cases e
 |f+1,⟨ρ0,inv,work⟩,ρ,I,e=>by
  unfold zkG at e;cases work with
  |nil=>cases e;exact⟨inv,I,Sub.refl _⟩
  |cons p ws=>
   obtain⟨b,b'⟩:=p;simp only at e;split at e
   ·rename_i cs st cs' st' h1 h2;cases hq:Nat.beq st st' with
    |false=>rw[hq]at e;cases e
    |true=>
     rw[hq]at e;simp only[Yza]at e;have hst:=beq_true hq;subst hst;cases hm:mCs cs cs' ⟨ρ0,inv,ws⟩ with
     |none=>rw[hm]at e;cases e
     |some m1=>
      rw[hm]at e;have I0:MI (fun x y=>x=b∧y=b') hc h ⟨ρ0,inv,ws⟩:=by
       refine⟨I.inv,fun x y hx=>?_⟩;rcases I.pairs x y hx with k|k|k
       ·cases k with
        |head=>exact .inr (.inl ⟨rfl,rfl⟩)
        |tail _ hm=>exact .inl hm
       ·exact k.elim
       ·exact .inr (.inr k)
      obtain⟨I1,s1,r1⟩:=zmU cs cs' _ m1 I0 hm;have I2:MI (fun _ _=>False) hc h m1:=by
       refine⟨I1.inv,fun x y hx=>?_⟩;rcases I1.pairs x y hx with k|⟨rfl,rfl⟩|k
       ·exact .inl k
       ·exact .inr (.inr ⟨cs,cs',st,h1,h2,r1⟩)
       ·exact .inr (.inr k)
      obtain⟨inv',k1,k2⟩:=zbu f m1 ρ I2 e;exact⟨inv',k1,s1.trans k2⟩
   ·cases e
theorem wg{s:Sum}{args:List Zb}(e:s.fits args h=true):∃ρ:Tr BN,RAs ρ s.args args∧(∀b c b',ρ.get b=some b'→ρ.get c=some b'→b=c)∧
  (∀b b',ρ.get b=some b'→∃cs cs' st,s.heap.t.get b=some (.cells cs st)∧h.t.get b'=some (.cells cs' st)∧RCs ρ cs cs')∧zyl ρ .z s.objs=true:=by
 unfold Sum.fits at e;split at e
 ·rename_i m hm;split at e
  ·rename_i ρ hρ;have I0:MI (fun _ _=>False) s.heap h ⟨.nil,.nil,[]⟩:=⟨(fun b b' hb=>by cases b<;>cases hb),(fun b b' hb=>by cases b<;>cases hb)⟩;obtain⟨I1,s1,r1⟩:=zpv _ _ _ _ I0 hm;obtain⟨inv,I2,s2⟩:=zbu _ _ _ I1 hρ;refine⟨ρ,r1.mono s2,fun b c b' hb hc=>?_,fun b b' hb=>?_,e⟩
   ·have h1:=I2.inv b b' hb;have h2:=I2.inv c b' hc;exact Option.some.inj (h1.symm.trans h2)
   ·rcases I2.pairs b b' hb with k|k|k
    ·cases k
    ·exact k.elim
    ·exact k
  ·cases e
 ·cases e
end
section
variable {P:Program} {w0:World} {S:Nat→Prop} {φ:Phi} {h:Za} {w:World}
noncomputable def via(ρ:Tr BN)(φ:Phi):Phi:=fun b=>match ρ.get b with|some b'=>φ b'|none=>⟨0,0,0,true,none⟩
theorem xa{ρ:Tr BN}{b b':BN}(hb:ρ.get b=some b'):via ρ φ b=φ b':=by unfold via;rw[hb]
theorem zaT{ρ:Tr BN}{c c':Zc}(hr:RC ρ c c'):zj φ c'=zj (via ρ φ) c:=by
 cases c with
 |ptr b o=>obtain⟨b',rfl,hb⟩:=hr;simp only[zj,adr,xa hb]
 |slc b o l k e=>obtain⟨b',rfl,hb⟩:=hr;simp only[zj,adr,xa hb]
 |_=>obtain⟨hp,rfl⟩:=hr;first|rfl|cases hp
theorem zla{ρ:Tr BN}{n m:Nat}(hlt:∀b b',ρ.get b=some b'→b.toNat<m){c c':Zc}(hr:RC ρ c c')(hw:wfC φ n c'):wfC (via ρ φ) m c:=by
 cases c with
 |ptr b o=>obtain⟨b',rfl,hb⟩:=hr;exact⟨hlt _ _ hb,by rw[xa hb];exact hw.2⟩
 |slc b o l k e=>
  obtain⟨b',rfl,hb⟩:=hr;exact⟨⟨hlt _ _ hb,by rw[xa hb];exact hw.1.2⟩,by rw[xa hb];exact hw.2.1,hw.2.2⟩
 |_=>obtain⟨hp,rfl⟩:=hr;first|trivial|cases hp
theorem zqb{ρ:Tr BN}{cs cs':List Zc}(hr:RCs ρ cs cs'):cs'.map (zj φ)=cs.map (zj (via ρ φ)):=by
 apply Yyx;intro i;rw[Lz6,Lz6];cases hc:cs[i]? with
 |none=>
  have:cs'[i]? = none:=by
   have:=hr.1;rw[List.getElem?_eq_none_iff]at hc ⊢;omega
  rw[this];rfl
 |some c=>
  obtain⟨c',h1,h2⟩:=hr.2 i c hc;rw[h1];simp only[Yzv,zaT h2]
theorem zs2{ρ:Tr BN}{v v':SVal}(hr:RS ρ v v'):zI φ v'=zI (via ρ φ) v:=by
 cases v with
 |one c=>obtain⟨c',rfl,h2⟩:=hr;exact zaT h2
 |agg cs=>obtain⟨cs',rfl,h2⟩:=hr;simp only[zI,zqb h2]
theorem zwH{ρ:Tr BN}{n m:Nat}(hlt:∀b b',ρ.get b=some b'→b.toNat<m){v v':SVal}(hr:RS ρ v v')(hw:wfS φ n v'):wfS (via ρ φ) m v:=by
 cases v with
 |one c=>obtain⟨c',rfl,h2⟩:=hr;exact zla hlt h2 hw
 |agg cs=>
  obtain⟨cs',rfl,h2⟩:=hr;intro c hc;obtain⟨i,hi⟩:=List.mem_iff_getElem?.1 hc;obtain⟨c',h3,h4⟩:=h2.2 i c hi;exact zla hlt h4 (hw c' (Lz3 h3))
theorem zn7{ρ:Tr BN}{n m:Nat}(hlt:∀b b',ρ.get b=some b'→b.toNat<m):∀{vs vs':List Zb},RAs ρ vs vs'→(∀x∈vs',wfA φ n x)→vs'.map (zq φ)=vs.map (zq (via ρ φ))∧∀x∈vs,wfA (via ρ φ) m x
 | [],[],_,_=>⟨rfl,fun x hx=>by cases hx⟩
 | .s v::vs,.s v'::vs',hr,hw=>by
  obtain⟨h1,h2⟩:=zn7 (n:=n) hlt hr.2 fun x hx=>hw x (by simp[hx]);refine⟨?_,fun x hx=>?_⟩
  ·simp only[Yzp,h1,zq,zs2 hr.1]
  ·cases hx with
   |head=>exact zwH hlt hr.1 (hw (.s v') (by simp))
   |tail _ hm=>exact h2 x hm
 | [],_::_,hr,_=>hr.elim
 | .tup _::_,_,hr,_=>by cases hr
 | .s _::_,[],hr,_=>by cases hr
 | .s _::_,.tup _::_,hr,_=>by cases hr
theorem zal{ρ:Tr BN}:∀(l:List Ze) (i j:Nat) (o:Ze),zyl ρ (bn i) l=true→l[j]? = some o→∃b',ρ.get (bn (i+j))=some b'
 | [],i,j,o,e,hj=>by simp at hj
 |x::l,i,j,o,e,hj=>by
  unfold zyl at e;split at e
  ·rename_i b' hb;cases j with
   |zero=>exact⟨b',hb⟩
   |succ j=>
    rw[qo]at e;obtain⟨b'',hb''⟩:=zal l (i+1) j o e (by simpa using hj);exact⟨b'',by rwa [show i+(j+1)=i+1+j by omega]⟩
  ·cases e
theorem zbx(s:Sum)(b:BN):s.heap.t.get b=s.objs[b.toNat]?:=by
 have e0:BN.z=bn 0:=rfl;show (Tr.ofList .z s.objs .nil).get b=_;have:=vh s.objs 0 (.nil:Tr Ze) b.toNat;rw[zY,←e0]at this;rw[this];have hn:(Tr.nil:Tr Ze).get b=none:=by cases b<;>rfl
 rw[hn];simp
theorem j0{h2:Za}:∀(l:List Ze) (i j:Nat) (o:Ze),zlJ h2 (bn i) l=true→l[j]? = some o→∃cs st,o=.cells cs st∧h2.t.get (bn (i+j))=some (.cells cs st)
 | [],i,j,o,e,hj=>by simp at hj
 |x::l,i,j,o,e,hj=>by
  cases x with
  |cells cs st=>
   unfold zlJ at e;split at e
   ·rename_i cs' st' hb;obtain⟨e1,e2⟩:=zwY e;obtain⟨e1,e3⟩:=zwY e1;cases j with
    |zero=>
     simp only[Yzg,Option.some.injEq]at hj;exact⟨cs,st,hj.symm,by rw[zhM e1,beq_true e3];exact hb⟩
    |succ j=>
     rw[qo]at e2;obtain⟨cs2,st2,k1,k2⟩:=j0 l (i+1) j o e2 (by simpa using hj);exact⟨cs2,st2,k1,by rwa [show i+(j+1)=i+1+j by omega]⟩
   ·cases e
  |_=>cases e
theorem kY{φ ψ:Phi}{c:Zc}(hp:xD c=true):zj φ c=zj ψ c:=by cases c<;>first|rfl|cases hp
theorem zbV{n:Nat}{c:Zc}(hp:xD c=true):wfC φ n c:=by cases c<;>first|trivial|cases hp
theorem zbU{φ ψ:Phi}{v:SVal}(hp:ziM v=true):zI φ v=zI ψ v:=by
 cases v with
 |one c=>exact kY hp
 |agg cs=>
  simp only[zI]
  congr 2
  exact Yyh fun c hc=>kY (Yz1.1 hp c hc)
theorem zfH{n:Nat}{v:SVal}(hp:ziM v=true):wfS φ n v:=by
 cases v with
 |one c=>exact zbV hp
 |agg cs=>exact fun c hc=>zbV (Yz1.1 hp c hc)
theorem zhf{φ ψ:Phi}{v:Zb}(hp:wx v=true):zq φ v=zq ψ v:=by
 cases v with
 |s v=>exact zbU hp
 |tup vs=>
  simp only[zq]
  congr 2
  exact Yyh fun c hc=>zbU (Yz1.1 hp c hc)
theorem zl9{n:Nat}{v:Zb}(hp:wx v=true):wfA φ n v:=by
 cases v with
 |s v=>exact zfH hp
 |tup vs=>exact fun c hc=>zfH (Yz1.1 hp c hc)
def u6(P:Program)(s:Sum):Prop:=∃call,yT P call∧s.chk call=true
theorem ztj{s:Sum}(hs:u6 P s){args:List Zb}(H:Zd w0 S φ h w)(hw:∀x∈args,wfA φ h.n.toNat x)(hf:s.fits args h=true):
  (∀as w,(callFunc s.g as).run P w=.ok (.enter s.g as) w)∧CallsIn (FR none) 0 P s.g (args.map (zq φ)).toArray w (Ret w0 S φ h s.res h):=by
 obtain⟨call,C,hchk⟩:=hs;obtain⟨ρ,hargs,hinj,hpair,hall⟩:=wg hf;unfold Sum.chk at hchk;split at hchk
 ·rename_i v h2 hcall;obtain⟨e1,e2⟩:=zwY hchk;obtain⟨e1,e3⟩:=zwY e1;have hv:=zjy e1;subst hv;have hn:s.heap.n.toNat=s.objs.length:=zK _;have hlt:∀b b',ρ.get b=some b'→b.toNat<s.heap.n.toNat:=by
   intro b b' hb;obtain⟨cs,cs',st,h1,_⟩:=hpair b b' hb;rw[zbx]at h1;rw[hn];exact(Lz0.1 h1).1
  have hin:∀b o,s.heap.t.get b=some o→∃b' cs cs' st,ρ.get b=some b'∧o=.cells cs st∧h.t.get b'=some (.cells cs' st)∧RCs ρ cs cs':=by
   intro b o hb;have hb':=hb;rw[zbx]at hb';obtain⟨b',hρ⟩:=zal s.objs 0 b.toNat o hall hb';rw[Yze,zY]at hρ;obtain⟨cs,cs',st,h1,h3,h4⟩:=hpair b b' hρ;rw[hb]at h1;exact⟨b',cs,cs',st,hρ,Option.some.inj h1,h3,h4⟩
  obtain⟨hconc,hwf⟩:=zn7 (φ:=φ) (n:=h.n.toNat) (m:=s.heap.n.toNat) hlt hargs hw;have HC:Zd w (fun k=>∃b b',ρ.get b=some b'∧k=(φ b').blk) (via ρ φ) s.heap w:=by
   refine⟨fun b o hb=>?_,fun b o hb=>?_,fun b o hb=>?_,fun b c o o' hb hc _ _ hh=>?_,fun b o hb _=>?_,rfl,rfl,rfl,LzB _,LzB _,fun _ _ _=>rfl,H.glob,fun b o hb _=>?_,fun b o hb _=>?_⟩
   ·rw[zbx]at hb;rw[hn];exact(Lz0.1 hb).1
   ·obtain⟨b',cs,cs',st,hρ,rfl,hb',hr⟩:=hin b o hb;rw[xa hρ];exact H.okb b' _ hb'
   ·obtain⟨b',cs,cs',st,hρ,rfl,hb',hr⟩:=hin b o hb;obtain⟨arr,e,g1,g2,g3,g4⟩:=H.obj b' _ hb';refine⟨arr,e,by rw[xa hρ];exact g1,fun i c hc=>?_,by rw[xa hρ];exact g3,fun c hc=>?_⟩
    ·obtain⟨c',k1,k2⟩:=hr.2 i c hc;rw[xa hρ,←zaT k2];exact g2 i c' k1
    ·obtain⟨i,hi⟩:=List.mem_iff_getElem?.1 hc;obtain⟨c',k1,k2⟩:=hr.2 i c hi;exact zla hlt k2 (g4 c' (Lz3 k1))
   ·obtain⟨b',cs,cs',st,hρ,rfl,hb',_⟩:=hin b o hb;obtain⟨c',ds,ds',st2,hρc,rfl,hc',_⟩:=hin c o' hc;rw[xa hρ,xa hρc]at hh;have:=H.inj b' c' _ _ hb' hc' trivial trivial hh;subst this;exact hinj b c b' hρ hρc
   ·obtain⟨b',cs,cs',st,hρ,rfl,hb',_⟩:=hin b o hb;exact .inl ⟨b,b',hρ,by rw[xa hρ]⟩
   ·obtain⟨b',cs,cs',st,hρ,rfl,hb',_⟩:=hin b o hb;rw[xa hρ];exact H.flat b' _ hb' trivial
   ·obtain⟨b',cs,cs',st,hρ,rfl,hb',_⟩:=hin b o hb;rw[xa hρ];exact H.ng b' _ hb' trivial
  obtain⟨hcf,hcl⟩:=(C w _ _ _ w _ _ h2 HC hwf).1 s.g hcall;refine⟨hcf,?_⟩;rw[hconc];refine hcl.mono ?_
  rintro e9 w9 ⟨φ2,rfl,he,H2,_,hle⟩
  refine⟨φ,by rw[zhf (ψ:=φ) e3],Ext.refl _ _,?_,zl9 e3,LzB _⟩;have hkeep:∀k,k<w.heap.size→(¬∃b b',ρ.get b=some b'∧k=(φ b').blk)→w9.heap[k]? = w.heap[k]?:=fun k hk hS=>H2.kept k hk hS;refine⟨H.keys,H.okb,fun b o hb=>?_,H.inj,H.own,H2.os.trans H.os,H2.tape.trans H.tape,H2.output.trans H.output,YzA H.size H2.size,YzA H.drawn H2.drawn,fun k hk hS=>?_,H2.glob,H.flat,H.ng⟩
  ·by_cases hl:live o
   ·by_cases hm:∃c c',ρ.get c=some c'∧(φ b).blk=(φ c').blk
    ·obtain⟨c,c',hρ,hblk⟩:=hm;obtain⟨cs,cs',st,k1,k2,k3⟩:=hpair c c' hρ;have:=H.inj b c' _ _ hb k2 hl trivial hblk;subst this;cases hb.symm.trans k2;have k1':=k1;rw[zbx]at k1';obtain⟨cs2,st2,q1,q2⟩:=j0 s.objs 0 c.toNat _ e2 k1';rw[Yze,zY]at q2;cases q1;obtain⟨arr,e,g1,g2,g3,g4⟩:=H2.obj c _ q2;have ec:φ2 c=φ b:=(he c (hlt _ _ hρ)).trans (xa hρ);obtain⟨_,_,_,_,_,o4⟩:=H.obj b _ hb;refine⟨arr,e,by rw[←ec];exact g1,fun i x hx=>?_,by rw[←ec];exact g3,o4⟩;have hi:i<cs.length:=by
      have:=(Lz0.1 hx).1;have:=k3.1;omega
     obtain⟨x',j1,j2⟩:=k3.2 i cs[i] (Lz5 hi);rw[hx]at j1;cases j1;have:=g2 i cs[i] (Lz5 hi);rw[ec]at this;rw[this,zaT j2];have hwc:wfC (via ρ φ) s.heap.n.toNat cs[i]:=zla hlt j2 (o4 x (Lz3 hx));rw[vL he hwc]
    ·exact(H.obj b o hb).world fun _=>hkeep _ ((H.obj b o hb).there hl) (fun⟨c,c',h1,h2⟩=>hm ⟨c,c',h1,h2⟩)
   ·exact(H.obj b o hb).world fun hh=>absurd hh hl
  ·by_cases hm:∃c c',ρ.get c=some c'∧k=(φ c').blk
   ·obtain⟨c,c',hρ,rfl⟩:=hm;obtain⟨cs,cs',st,_,k2,_⟩:=hpair c c' hρ;rcases H.own c' _ k2 trivial with h1|h1
    ·exact absurd h1 hS
    ·omega
   ·rw[hkeep k (Lz9 hk H.size) hm];exact H.kept k hk hS
 ·cases hchk
theorem zdI{g:Nat}{args:List Zb}{v:Zb}:∀(l:List Sum),wh g args h l=some v→∃s∈l,s.g=g∧s.fits args h=true∧s.res=v
 | [],e=>by cases e
 |s::l,e=>by
  unfold wh at e;cases hq:(Nat.beq g s.g&&s.fits args h) with
  |true=>
   rw[hq]at e;obtain⟨h1,h2⟩:=zwY hq;exact⟨s,by simp,(beq_true h1).symm,h2,Option.some.inj e⟩
  |false=>
   rw[hq]at e;obtain⟨s',k1,k2⟩:=zdI l e;exact⟨s',by simp[k1],k2⟩
theorem zd0{sums:List Sum}(hs:∀s∈sums,u6 P s){call:zg}(C:yT P call):yT P (zcT sums call):=by
 intro w0 S φ h w args v h2 H hw;refine⟨fun g e=>?_,fun l e=>(C w0 S φ h w args v h2 H hw).2 l e⟩;unfold zcT at e;simp only at e;split at e
 ·rename_i v' hf;cases e;obtain⟨s,h1,rfl,h3,rfl⟩:=zdI sums hf;exact ztj (hs s h1) H hw h3
 ·exact(C w0 S φ h w args v h2 H hw).1 g e
theorem zfc{fs:Nat→Option Zl}(hfs:zyv P fs){sums:List Sum}(hs:∀s∈sums,u6 P s):∀n,yT P (zhK (zX P) fs sums n)
 |0=>zey
 |n+1=>zd0 hs (zfe (zfc hfs hs n) hfs n)
theorem zoo{call:zg}(C:yT P call){f:Nat}{c:Zc}{h2:Za}(e:call (.inl f) [] ⟨.z,.nil⟩=some (.s (.one c),h2))(w:World)(hG:GOk w):
  (∀as w,(callFunc f as).run P w=.ok (.enter f as) w)∧CallsIn (FR none) 0 P f #[] w (fun e w2=>∃φ,e=.returned (zj φ c)∧Below w.heap.size w w2):=by
 have H:Zd w (fun _=>False) (fun _=>⟨0,0,0,true,none⟩) ⟨.z,.nil⟩ w:=by
  have hnil:∀b,(Tr.nil:Tr Ze).get b=none:=by intro b;cases b<;>rfl
  refine⟨?_,?_,?_,?_,?_,rfl,rfl,rfl,LzB _,LzB _,fun _ _ _=>rfl,hG,?_,?_⟩
  ·intro b o hb;rw[hnil]at hb;cases hb
  ·intro b o hb;rfl
  ·intro b o hb;rw[hnil]at hb;cases hb
  ·intro b b' o o' hb;rw[hnil]at hb;cases hb
  ·intro b o hb;rw[hnil]at hb;cases hb
  ·intro b o hb;rw[hnil]at hb;cases hb
  ·intro b o hb;rw[hnil]at hb;cases hb
 have:=(C w _ _ _ w [] _ h2 H (fun x hx=>by cases hx)).1 f e;refine⟨this.1,this.2.mono ?_⟩
 rintro e9 w9 ⟨φ2,rfl,he,H2,_,_⟩
 exact⟨φ2,rfl,⟨H2.os,H2.tape,H2.output,H2.size,fun k hk=>H2.kept k hk (fun hh=>hh)⟩⟩
end
end Go.CE
end
section
namespace Go.CE
open Go.RowKit
noncomputable section
structure Zm where
 g:Nat
 args:List Zb
 objs:List Ze
 res:Zb
 news:List Ze
def Zm.heap(s:Zm):Za:=⟨bn s.objs.length,Tr.ofList .z s.objs .nil⟩
def Zm.heap1(s:Zm):Za:=⟨bn (s.objs.length+s.news.length),Tr.ofList .z (s.objs++s.news) .nil⟩
def mR(m:Mt):Zb→Zb→Option Mt
 | .s v,.s v'=>mS m v v'
 | .tup vs,.tup vs'=>mA (vs.map .s) (vs'.map .s) m
 |_,_=>none
def zzy:BN→List Ze→Mt→Option Mt
 |_,[],m=>some m
 |i,_::l,m=>
  match mB i i m with
  |some m'=>zzy i.succ l m'
  |none=>none
def Zm.back(s:Zm)(v:Zb)(h2:Za):Option (Tr BN):=
 match zzy .z s.objs ⟨.nil,.nil,[]⟩ with
 |some m0=>
  match mR m0 s.res v with
  |some m=>zkG s.heap1 h2 (Nat.succ (s.objs.length+s.news.length)) m
  |none=>none
 |none=>none
def Zm.chk(call:zg)(s:Zm):Bool:=
 match call (.inl s.g) s.args s.heap with
 |some (v,h2)=>
  match s.back v h2 with
  |some ρ=>zyl ρ .z (s.objs++s.news)&&zlJ h2 .z s.objs
  |none=>false
 |none=>false
def Zm.fits(s:Zm)(args:List Zb)(h:Za):Option (Tr BN):=
 match mA s.args args ⟨.nil,.nil,[]⟩ with
 |some m=>
  match zkG s.heap h (Nat.succ s.objs.length) m with
  |some ρ=>bif zyl ρ .z s.objs then some ρ else none
  |none=>none
 |none=>none
def sC(ρ:Tr BN):Zc→Option Zc
 | .ptr b o=>match ρ.get b with|some b'=>some (.ptr b' o)|none=>none
 | .slc b o l k e=>match ρ.get b with|some b'=>some (.slc b' o l k e)|none=>none
 |c=>bif xD c then some c else none
def sCs(ρ:Tr BN):List Zc→Option (List Zc)
 | []=>some []
 |c::cs=>
  match sC ρ c with
  |some c'=>match sCs ρ cs with|some cs'=>some (c'::cs')|none=>none
  |none=>none
def sS(ρ:Tr BN):SVal→Option SVal
 | .one c=>match sC ρ c with|some c'=>some (.one c')|none=>none
 | .agg cs=>match sCs ρ cs with|some cs'=>some (.agg cs')|none=>none
def sSs(ρ:Tr BN):List SVal→Option (List SVal)
 | []=>some []
 |v::vs=>
  match sS ρ v with
  |some v'=>match sSs ρ vs with|some vs'=>some (v'::vs')|none=>none
  |none=>none
def sA(ρ:Tr BN):Zb→Option Zb
 | .s v=>match sS ρ v with|some v'=>some (.s v')|none=>none
 | .tup vs=>match sSs ρ vs with|some vs'=>some (.tup vs')|none=>none
def zym:BN→BN→List Ze→Tr BN→Tr BN
 |_,_,[],ρ=>ρ
 |i,k,_::l,ρ=>zym i.succ k.succ l (ρ.set i k)
def zzC(ρ:Tr BN):List Ze→Za→Option Za
 | [],h=>some h
 | .cells cs st::l,h=>
  match sCs ρ cs with
  |some cs'=>zzC ρ l (h.new (.cells cs' st))
  |none=>none
 |_::_,_=>none
def Zm.app(s:Zm)(h:Za)(ρ:Tr BN):Res:=
 match zzC (zym (bn s.objs.length) h.n s.news ρ) s.news h with
 |some h'=>match sA (zym (bn s.objs.length) h.n s.news ρ) s.res with|some v=>some (v,h')|none=>none
 |none=>none
def qX(g:Nat)(args:List Zb)(h:Za):List Zm→Res
 | []=>none
 |s::l=>
  bif Nat.beq g s.g then
   match s.fits args h with
   |some ρ=>s.app h ρ
   |none=>qX g args h l
  else qX g args h l
def zq1(sums:List Zm)(call:zg):zg
 | .inl g,args,h=>
  match qX g args h sums with
  |some r=>some r
  |none=>call (.inl g) args h
 | .inr l,args,h=>call (.inr l) args h
def zhL(cc:Nat→Code→xt)(fs:Nat→Option Zl)(sums:List Sum)(nsums:List Zm)(n:Nat):zg:=
 Nat.rec (motive:=fun _=>zg) (fun _ _ _=>none) (fun f ih=>zq1 nsums (zcT sums (zba cc fs ih f))) n
end
theorem zvU{D:BN→BN→Prop}{hc h:Za}{m m':Mt}:∀{v v':Zb},MI D hc h m→mR m v v'=some m'→MI D hc h m'∧Sub m.ρ m'.ρ∧
  (match v,v' with | .s a,.s b=>RS m'.ρ a b | .tup as,.tup bs=>RAs m'.ρ (as.map .s) (bs.map .s)|_,_=>False)
 | .s v,.s v',I,e=>zt7 I e
 | .tup vs,.tup vs',I,e=>zpv _ _ _ _ I e
 | .s _,.tup _,_,e=>by cases e
 | .tup _,.s _,_,e=>by cases e
theorem zmT{D:BN→BN→Prop}{hc h:Za}:∀(l:List Ze) (i:Nat) (m m':Mt),MI D hc h m→zzy (bn i) l m=some m'→MI D hc h m'∧Sub m.ρ m'.ρ∧∀j,j<l.length→m'.ρ.get (bn (i+j))=some (bn (i+j))
 | [],_,m,m',I,e=>by cases e;exact⟨I,Sub.refl _,fun j hj=>absurd hj (YyE _)⟩
 |o::l,i,m,m',I,e=>by
  unfold zzy at e;split at e
  ·rename_i m1 h1;obtain⟨I1,s1,r1⟩:=zrY I h1;rw[qo]at e;obtain⟨I2,s2,r2⟩:=zmT l (i+1) m1 m' I1 e;refine⟨I2,s1.trans s2,fun j hj=>?_⟩;cases j with
   |zero=>exact s2 _ _ r1
   |succ j=>
    have:=r2 j (by simpa using hj)
    rwa [show i+1+j=i+(j+1) by omega]at this
  ·cases e
theorem ztG{ρ:Tr BN}{c c':Zc}(e:sC ρ c=some c'):RC ρ c c':=by
 have rest:∀c,(bif xD c then some c else none)=some c'→xD c=true∧c'=c:=by
  intro c e;cases hq:xD c with
  |false=>rw[hq]at e;cases e
  |true=>rw[hq]at e;cases e;exact⟨rfl,rfl⟩
 cases c with
 |ptr b o=>
  simp only[sC]at e;split at e
  ·rename_i b' hb;cases e;exact⟨b',rfl,hb⟩
  ·cases e
 |slc b o l k x=>
  simp only[sC]at e;split at e
  ·rename_i b' hb;cases e;exact⟨b',rfl,hb⟩
  ·cases e
 |_=>exact rest _ e
theorem zlQ{ρ:Tr BN}:∀{cs cs':List Zc},sCs ρ cs=some cs'→RCs ρ cs cs'
 | [],cs',e=>by cases e;exact⟨rfl,fun i c hc=>by simp at hc⟩
 |c::cs,cs',e=>by
  unfold sCs at e;split at e
  ·rename_i c1 h1;split at e
   ·rename_i cs1 h2;cases e;have r:=zlQ h2;refine⟨by simp[r.1],fun i x hx=>?_⟩;cases i with
    |zero=>
     simp only[Yzg,Option.some.injEq]at hx;subst hx;exact⟨c1,rfl,ztG h1⟩
    |succ i=>
     simp only[Yzl]at hx ⊢;exact r.2 i x hx
   ·cases e
  ·cases e
theorem ztF{ρ:Tr BN}{v v':SVal}(e:sS ρ v=some v'):RS ρ v v':=by
 cases v with
 |one c=>
  simp only[sS]at e;split at e
  ·rename_i c' h;cases e;exact⟨c',rfl,ztG h⟩
  ·cases e
 |agg cs=>
  simp only[sS]at e;split at e
  ·rename_i c' h;cases e;exact⟨c',rfl,zlQ h⟩
  ·cases e
def RR(ρ:Tr BN):Zb→Zb→Prop
 | .s v,.s v'=>RS ρ v v'
 | .tup vs,.tup vs'=>RAs ρ (vs.map .s) (vs'.map .s)
 |_,_=>False
theorem RR.mono{ρ ρ':Tr BN}(hs:Sub ρ ρ'){v v':Zb}(h:RR ρ v v'):RR ρ' v v':=by
 cases v with
 |s v=>cases v' with|s v'=>exact RS.mono hs h|tup _=>exact h.elim
 |tup vs=>cases v' with|s v'=>exact h.elim|tup vs'=>exact RAs.mono hs h
theorem zqo{ρ:Tr BN}:∀{vs vs':List SVal},sSs ρ vs=some vs'→RAs ρ (vs.map .s) (vs'.map .s)
 | [],vs',e=>by cases e;trivial
 |v::vs,vs',e=>by
  unfold sSs at e;split at e
  ·rename_i v1 h1;split at e
   ·rename_i vs1 h2;cases e;exact⟨ztF h1,zqo h2⟩
   ·cases e
  ·cases e
theorem zvI{ρ:Tr BN}{v v':Zb}(e:sA ρ v=some v'):RR ρ v v':=by
 cases v with
 |s v=>
  simp only[sA]at e;split at e
  ·rename_i c' h;cases e;exact ztF h
  ·cases e
 |tup vs=>
  simp only[sA]at e;split at e
  ·rename_i c' h;cases e;exact zqo h
  ·cases e
theorem zn5{ρ ρ':Tr BN}{φ φ':Phi}(ha:∀b x x',ρ.get b=some x→ρ'.get b=some x'→φ' x'=φ x){c c1 c2:Zc}(h1:RC ρ c c1)(h2:RC ρ' c c2):zj φ' c2=zj φ c1:=by
 cases c with
 |ptr b o=>obtain⟨x,rfl,hx⟩:=h1;obtain⟨x',rfl,hx'⟩:=h2;simp only[zj,adr,ha b x x' hx hx']
 |slc b o l k e=>obtain⟨x,rfl,hx⟩:=h1;obtain⟨x',rfl,hx'⟩:=h2;simp only[zj,adr,ha b x x' hx hx']
 |_=>obtain⟨hp,rfl⟩:=h1;obtain⟨_,rfl⟩:=h2;exact kY hp
theorem zgy{ρ ρ':Tr BN}{φ φ':Phi}{n n':Nat}(ha:∀b x x',ρ.get b=some x→ρ'.get b=some x'→φ' x'=φ x)(hlt:∀b x,ρ'.get b=some x→x.toNat<n'){c c1 c2:Zc}(h1:RC ρ c c1)(h2:RC ρ' c c2)(hw:wfC φ n c1):wfC φ' n' c2:=by
 cases c with
 |ptr b o=>
  obtain⟨x,rfl,hx⟩:=h1;obtain⟨x',rfl,hx'⟩:=h2;exact⟨hlt _ _ hx',by rw[ha b x x' hx hx'];exact hw.2⟩
 |slc b o l k e=>
  obtain⟨x,rfl,hx⟩:=h1;obtain⟨x',rfl,hx'⟩:=h2;exact⟨⟨hlt _ _ hx',by rw[ha b x x' hx hx'];exact hw.1.2⟩,by rw[ha b x x' hx hx'];exact hw.2.1,hw.2.2⟩
 |_=>obtain⟨hp,rfl⟩:=h1;obtain⟨_,rfl⟩:=h2;exact zbV hp
theorem zs3{ρ ρ':Tr BN}{φ φ':Phi}(ha:∀b x x',ρ.get b=some x→ρ'.get b=some x'→φ' x'=φ x){cs c1 c2:List Zc}(h1:RCs ρ cs c1)(h2:RCs ρ' cs c2):c2.map (zj φ')=c1.map (zj φ):=by
 apply Yyx;intro i;rw[Lz6,Lz6];cases hc:cs[i]? with
 |none=>
  have k1:c1[i]? = none:=by
   have:=h1.1;rw[List.getElem?_eq_none_iff]at hc ⊢;omega
  have k2:c2[i]? = none:=by
   have:=h2.1;rw[List.getElem?_eq_none_iff]at hc ⊢;omega
  rw[k1,k2];rfl
 |some c=>
  obtain⟨x1,p1,q1⟩:=h1.2 i c hc;obtain⟨x2,p2,q2⟩:=h2.2 i c hc;rw[p1,p2];simp only[Yzv,zn5 ha q1 q2]
theorem zqV{ρ ρ':Tr BN}{φ φ':Phi}(ha:∀b x x',ρ.get b=some x→ρ'.get b=some x'→φ' x'=φ x){v v1 v2:SVal}(h1:RS ρ v v1)(h2:RS ρ' v v2):zI φ' v2=zI φ v1:=by
 cases v with
 |one c=>obtain⟨c1,rfl,q1⟩:=h1;obtain⟨c2,rfl,q2⟩:=h2;exact zn5 ha q1 q2
 |agg cs=>obtain⟨c1,rfl,q1⟩:=h1;obtain⟨c2,rfl,q2⟩:=h2;simp only[zI,zs3 ha q1 q2]
theorem zn6{ρ ρ':Tr BN}{φ φ':Phi}(ha:∀b x x',ρ.get b=some x→ρ'.get b=some x'→φ' x'=φ x):∀{vs v1 v2:List SVal},RAs ρ (vs.map .s) (v1.map .s)→RAs ρ' (vs.map .s) (v2.map .s)→v2.map (zI φ')=v1.map (zI φ)
 | [],[],[],_,_=>rfl
 |v::vs,a::as,b::bs,h1,h2=>by
  simp only[Yzp,zqV ha h1.1 h2.1,zn6 ha h1.2 h2.2]
 | [],_::_,_,h,_=>h.elim
 | [],[],_::_,_,h=>h.elim
 |_::_,[],_,h,_=>h.elim
 |_::_,_::_,[],_,h=>h.elim
theorem zvf{ρ ρ':Tr BN}{φ φ':Phi}(ha:∀b x x',ρ.get b=some x→ρ'.get b=some x'→φ' x'=φ x){v v1 v2:Zb}(h1:RR ρ v v1)(h2:RR ρ' v v2):zq φ' v2=zq φ v1:=by
 cases v with
 |s v=>
  cases v1 with
  |s v1=>cases v2 with|s v2=>exact zqV ha h1 h2|tup _=>exact h2.elim
  |tup _=>exact h1.elim
 |tup vs=>
  cases v1 with
  |s v1=>exact h1.elim
  |tup v1=>cases v2 with|s v2=>exact h2.elim|tup v2=>simp only[zq,zn6 ha h1 h2]
theorem zdV{ρ ρ':Tr BN}{φ φ':Phi}{n n':Nat}(ha:∀b x x',ρ.get b=some x→ρ'.get b=some x'→φ' x'=φ x)(hlt:∀b x,ρ'.get b=some x→x.toNat<n'){cs c1 c2:List Zc}(h1:RCs ρ cs c1)(h2:RCs ρ' cs c2)(hw:∀c∈c1,wfC φ n c):∀c∈c2,wfC φ' n' c:=by
 intro c hc;obtain⟨i,hi⟩:=List.mem_iff_getElem?.1 hc;have hl:i<cs.length:=by
  have:=(Lz0.1 hi).1;have:=h2.1;omega
 obtain⟨x1,p1,q1⟩:=h1.2 i cs[i] (Lz5 hl);obtain⟨x2,p2,q2⟩:=h2.2 i cs[i] (Lz5 hl);rw[hi]at p2;cases p2;exact zgy ha hlt q1 q2 (hw x1 (Lz3 p1))
theorem zgx{ρ ρ':Tr BN}{φ φ':Phi}{n n':Nat}(ha:∀b x x',ρ.get b=some x→ρ'.get b=some x'→φ' x'=φ x)(hlt:∀b x,ρ'.get b=some x→x.toNat<n'){v v1 v2:SVal}(h1:RS ρ v v1)(h2:RS ρ' v v2)(hw:wfS φ n v1):wfS φ' n' v2:=by
 cases v with
 |one c=>obtain⟨c1,rfl,q1⟩:=h1;obtain⟨c2,rfl,q2⟩:=h2;exact zgy ha hlt q1 q2 hw
 |agg cs=>obtain⟨c1,rfl,q1⟩:=h1;obtain⟨c2,rfl,q2⟩:=h2;exact zdV ha hlt q1 q2 hw
theorem zdW{ρ ρ':Tr BN}{φ φ':Phi}{n n':Nat}(ha:∀b x x',ρ.get b=some x→ρ'.get b=some x'→φ' x'=φ x)(hlt:∀b x,ρ'.get b=some x→x.toNat<n'):∀{vs v1 v2:List SVal},RAs ρ (vs.map .s) (v1.map .s)→RAs ρ' (vs.map .s) (v2.map .s)→(∀v∈v1,wfS φ n v)→∀v∈v2,wfS φ' n' v
 | [],[],[],_,_,_=>fun v hv=>by cases hv
 |v::vs,a::as,b::bs,h1,h2,hw=>fun x hx=>by
  rcases YzO.1 hx with rfl|hx
  ·exact zgx ha hlt h1.1 h2.1 (hw a (by simp))
  ·exact zdW ha hlt h1.2 h2.2 (fun y hy=>hw y (by simp[hy])) x hx
 | [],_::_,_,h,_,_=>h.elim
 | [],[],_::_,_,h,_=>h.elim
 |_::_,[],_,h,_,_=>h.elim
 |_::_,_::_,[],_,h,_=>h.elim
theorem zn4{ρ ρ':Tr BN}{φ φ':Phi}{n n':Nat}(ha:∀b x x',ρ.get b=some x→ρ'.get b=some x'→φ' x'=φ x)(hlt:∀b x,ρ'.get b=some x→x.toNat<n'){v v1 v2:Zb}(h1:RR ρ v v1)(h2:RR ρ' v v2)(hw:wfA φ n v1):wfA φ' n' v2:=by
 cases v with
 |s v=>
  cases v1 with
  |s v1=>cases v2 with|s v2=>exact zgx ha hlt h1 h2 hw|tup _=>exact h2.elim
  |tup _=>exact h1.elim
 |tup vs=>
  cases v1 with
  |s v1=>exact h1.elim
  |tup v1=>cases v2 with|s v2=>exact h2.elim|tup v2=>exact zdW ha hlt h1 h2 hw
theorem zs4{ρ:Tr BN}{cs cs':List Zc}(h:RCs ρ cs cs'){i:Nat}{c':Zc}(hc:cs'[i]? = some c'):∃c,cs[i]? = some c∧RC ρ c c':=by
 have hi:i<cs.length:=by
  have:=(Lz0.1 hc).1;have:=h.1;omega
 obtain⟨x,k1,k2⟩:=h.2 i cs[i] (Lz5 hi);rw[hc]at k1;cases k1;exact⟨cs[i],Lz5 hi,k2⟩
section
variable {P:Program} {w0:World} {S:Nat→Prop} {φ:Phi} {h:Za} {w:World}
theorem zjU:∀(l:List Ze) (i k:Nat) (ρ:Tr BN) (b:Nat),(zym (bn i) (bn k) l ρ).get (bn b)=if i≤b∧b<i+l.length then some (bn (k+(b-i))) else ρ.get (bn b)
 | [],i,k,ρ,b=>by
  rw[Yzb (by simp only[Yz7];omega)];rfl
 |o::l,i,k,ρ,b=>by
  show (zym (bn i).succ (bn k).succ l (ρ.set (bn i) (bn k))).get (bn b)=_;rw[qo,qo,zjU l (i+1) (k+1) _ b];by_cases h1:b=i
  ·subst h1;rw[Yzb (by omega),Yzd (by simp only[Yzk];omega),zz,Nat.sub_self];rfl
  ·have hne:bn b≠bn i:=fun hh=>h1 (by have:=congrArg BN.toNat hh;rwa [zK,zK]at this);rw[zp _ _ _ _ hne];by_cases h2:i+1≤b∧b<i+1+l.length
   ·rw[Yzd h2,Yzd (by simp only[Yzk];omega)]
    congr 2;omega
   ·rw[Yzb h2,Yzb (by simp only[Yzk];omega)]
theorem zjV{ρ:Tr BN}:∀(l:List Ze) (h h':Za),zzC ρ l h=some h'→h'.n.toNat=h.n.toNat+l.length∧(∀b,b<h.n.toNat→h'.t.get (bn b)=h.t.get (bn b))∧
  (∀j o,l[j]? = some o→∃cs cs' st,o=.cells cs st∧RCs ρ cs cs'∧h'.t.get (bn (h.n.toNat+j))=some (.cells cs' st))∧∀b,h.n.toNat+l.length≤b→h'.t.get (bn b)=h.t.get (bn b)
 | [],h,h',e=>by cases e;exact⟨rfl,fun _ _=>rfl,fun j o hj=>by simp at hj,fun _ _=>rfl⟩
 |o::l,h,h',e=>by
  cases o with
  |cells cs st=>
   simp only[zzC]at e;split at e
   ·rename_i cs' hcs;obtain⟨k1,k2,k3,k4⟩:=zjV l _ h' e;rw[yx]at k1 k2 k3 k4;have hne:∀b,b≠h.n.toNat→(h.new (.cells cs' st)).t.get (bn b)=h.t.get (bn b):=fun b hb=>
     zp _ _ _ _ (fun hh=>hb (by have:=congrArg BN.toNat hh;rwa [zK]at this))
    refine⟨by rw[k1,Yzk];omega,fun b hb=>?_,fun j o hj=>?_,fun b hb=>?_⟩
    ·rw[k2 b (by omega),hne b (by omega)]
    ·cases j with
     |zero=>
      simp only[Yzg,Option.some.injEq]at hj;subst hj;refine⟨cs,cs',st,rfl,zlQ hcs,?_⟩;rw[Yzw,k2 _ (by omega),zY];exact zz _ _ _
     |succ j=>
      simp only[Yzl]at hj;obtain⟨c1,c2,st2,q1,q2,q3⟩:=k3 j o hj;exact⟨c1,c2,st2,q1,q2,by rwa [show h.n.toNat+1+j=h.n.toNat+(j+1) by omega]at q3⟩
    ·rw[Yzk]at hb;rw[k4 b (by omega),hne b (by omega)]
   ·cases e
  |_=>cases e
theorem zpQ{s:Zm}{args:List Zb}{ρ:Tr BN}(e:s.fits args h=some ρ):RAs ρ s.args args∧(∀b c b',ρ.get b=some b'→ρ.get c=some b'→b=c)∧
  (∀b b',ρ.get b=some b'→∃cs cs' st,s.heap.t.get b=some (.cells cs st)∧h.t.get b'=some (.cells cs' st)∧RCs ρ cs cs')∧zyl ρ .z s.objs=true:=by
 unfold Zm.fits at e;split at e
 ·rename_i m hm;split at e
  ·rename_i ρ1 hρ;cases hq:zyl ρ1 .z s.objs with
   |false=>rw[hq]at e;cases e
   |true=>
    rw[hq]at e;cases e;have I0:MI (fun _ _=>False) s.heap h ⟨.nil,.nil,[]⟩:=⟨(fun b b' hb=>by cases b<;>cases hb),(fun b b' hb=>by cases b<;>cases hb)⟩;obtain⟨I1,s1,r1⟩:=zpv _ _ _ _ I0 hm;obtain⟨inv,I2,s2⟩:=zbu _ _ _ I1 hρ;refine⟨r1.mono s2,fun b c b' hb hc=>?_,fun b b' hb=>?_,hq⟩
    ·have h1:=I2.inv b b' hb;have h2:=I2.inv c b' hc;exact Option.some.inj (h1.symm.trans h2)
    ·rcases I2.pairs b b' hb with k|k|k
     ·cases k
     ·exact k.elim
     ·exact k
  ·cases e
 ·cases e
theorem znZ{s:Zm}{v:Zb}{h2:Za}{ρ:Tr BN}(e:s.back v h2=some ρ):RR ρ s.res v∧(∀b c b',ρ.get b=some b'→ρ.get c=some b'→b=c)∧
  (∀b b',ρ.get b=some b'→∃cs cs' st,s.heap1.t.get b=some (.cells cs st)∧h2.t.get b'=some (.cells cs' st)∧RCs ρ cs cs')∧∀j,j<s.objs.length→ρ.get (bn j)=some (bn j):=by
 unfold Zm.back at e;split at e
 ·rename_i m0 hm0;split at e
  ·rename_i m hm;have I0:MI (fun _ _=>False) s.heap1 h2 ⟨.nil,.nil,[]⟩:=⟨(fun b b' hb=>by cases b<;>cases hb),(fun b b' hb=>by cases b<;>cases hb)⟩;obtain⟨I1,s1,r1⟩:=zmT s.objs 0 _ _ I0 hm0;obtain⟨I2,s2,r2⟩:=zvU I1 hm;obtain⟨inv,I3,s3⟩:=zbu _ _ _ I2 e;have hr:RR m.ρ s.res v:=by
    cases hv:s.res with
    |s a=>rw[hv]at r2;cases v with|s b=>exact r2|tup _=>exact r2.elim
    |tup a=>rw[hv]at r2;cases v with|s b=>exact r2.elim|tup _=>exact r2
   refine⟨hr.mono s3,fun b c b' hb hc=>?_,fun b b' hb=>?_,fun j hj=>?_⟩
   ·have h1:=I3.inv b b' hb;have h2:=I3.inv c b' hc;exact Option.some.inj (h1.symm.trans h2)
   ·rcases I3.pairs b b' hb with k|k|k
    ·cases k
    ·exact k.elim
    ·exact k
   ·have:=r1 j hj;rw[Yze]at this;exact s3 _ _ (s2 _ _ this)
  ·cases e
 ·cases e
def vY(P:Program)(s:Zm):Prop:=∃call,yT P call∧s.chk call=true
theorem ke(l:List Ze)(n:BN)(b:BN):(⟨n,Tr.ofList .z l .nil⟩:Za).t.get b=l[b.toNat]?:=by
 have e0:BN.z=bn 0:=rfl;show (Tr.ofList .z l .nil).get b=_;have:=vh l 0 (.nil:Tr Ze) b.toNat;rw[zY,←e0]at this;rw[this];have hn:(Tr.nil:Tr Ze).get b=none:=by cases b<;>rfl
 rw[hn];simp
noncomputable def za2(φ φ2:Phi)(ρ:Tr BN)(n N:Nat):Phi:=fun b=>if b.toNat<N then φ b else via ρ φ2 (bn (n+(b.toNat-N)))
theorem zrd{s:Zm}(hs:vY P s){args:List Zb}(H:Zd w0 S φ h w)(hw:∀x∈args,wfA φ h.n.toNat x){ρ:Tr BN}(hf:s.fits args h=some ρ){v:Zb}{h':Za}(ha:s.app h ρ=some (v,h')):
  (∀as w,(callFunc s.g as).run P w=.ok (.enter s.g as) w)∧CallsIn (FR none) 0 P s.g (args.map (zq φ)).toArray w (Ret w0 S φ h v h'):=by
 obtain⟨call,C,hchk⟩:=hs;obtain⟨hargs,hinj,hpair,hall⟩:=zpQ hf;unfold Zm.chk at hchk;split at hchk
 ·rename_i v0 h2 hcall;split at hchk
  ·rename_i ρc hback;obtain⟨hallc,e2⟩:=zwY hchk;obtain⟨hres,hinjc,hpairc,hid⟩:=znZ hback;have hn:s.heap.n.toNat=s.objs.length:=zK _;have hlt:∀b b',ρ.get b=some b'→b.toNat<s.heap.n.toNat:=by
    intro b b' hb;obtain⟨cs,cs',st,h1,_⟩:=hpair b b' hb;unfold Zm.heap at h1;rw[ke]at h1;rw[hn];exact(Lz0.1 h1).1
   have hin:∀b o,s.heap.t.get b=some o→∃b' cs cs' st,ρ.get b=some b'∧o=.cells cs st∧h.t.get b'=some (.cells cs' st)∧RCs ρ cs cs':=by
    intro b o hb;have hb':=hb;unfold Zm.heap at hb';rw[ke]at hb';obtain⟨b',hρ⟩:=zal s.objs 0 b.toNat o hall hb';rw[Yze,zY]at hρ;obtain⟨cs,cs',st,h1,h3,h4⟩:=hpair b b' hρ;rw[hb]at h1;exact⟨b',cs,cs',st,hρ,Option.some.inj h1,h3,h4⟩
   obtain⟨hconc,hwf⟩:=zn7 (φ:=φ) (n:=h.n.toNat) (m:=s.heap.n.toNat) hlt hargs hw;have HC:Zd w (fun k=>∃b b',ρ.get b=some b'∧k=(φ b').blk) (via ρ φ) s.heap w:=by
    refine⟨fun b o hb=>?_,fun b o hb=>?_,fun b o hb=>?_,fun b c o o' hb hc _ _ hh=>?_,fun b o hb _=>?_,rfl,rfl,rfl,LzB _,LzB _,fun _ _ _=>rfl,H.glob,fun b o hb _=>?_,fun b o hb _=>?_⟩
    ·unfold Zm.heap at hb;rw[ke]at hb;rw[hn];exact(Lz0.1 hb).1
    ·obtain⟨b',cs,cs',st,hρ,rfl,hb',hr⟩:=hin b o hb;rw[xa hρ];exact H.okb b' _ hb'
    ·obtain⟨b',cs,cs',st,hρ,rfl,hb',hr⟩:=hin b o hb;obtain⟨arr,e,g1,g2,g3,g4⟩:=H.obj b' _ hb';refine⟨arr,e,by rw[xa hρ];exact g1,fun i c hc=>?_,by rw[xa hρ];exact g3,fun c hc=>?_⟩
     ·obtain⟨c',k1,k2⟩:=hr.2 i c hc;rw[xa hρ,←zaT k2];exact g2 i c' k1
     ·obtain⟨i,hi⟩:=List.mem_iff_getElem?.1 hc;obtain⟨c',k1,k2⟩:=hr.2 i c hi;exact zla hlt k2 (g4 c' (Lz3 k1))
    ·obtain⟨b',cs,cs',st,hρ,rfl,hb',_⟩:=hin b o hb;obtain⟨c',ds,ds',st2,hρc,rfl,hc',_⟩:=hin c o' hc;rw[xa hρ,xa hρc]at hh;have:=H.inj b' c' _ _ hb' hc' trivial trivial hh;subst this;exact hinj b c b' hρ hρc
    ·obtain⟨b',cs,cs',st,hρ,rfl,hb',_⟩:=hin b o hb;exact .inl ⟨b,b',hρ,by rw[xa hρ]⟩
    ·obtain⟨b',cs,cs',st,hρ,rfl,hb',_⟩:=hin b o hb;rw[xa hρ];exact H.flat b' _ hb' trivial
    ·obtain⟨b',cs,cs',st,hρ,rfl,hb',_⟩:=hin b o hb;rw[xa hρ];exact H.ng b' _ hb' trivial
   obtain⟨hcf,hcl⟩:=(C w _ _ _ w _ _ h2 HC hwf).1 s.g hcall;refine⟨hcf,?_⟩;rw[hconc];refine hcl.mono ?_
   rintro e9 w9 ⟨φ2,rfl,he,H2,hv2,hle⟩
   unfold Zm.app at ha;split at ha
   ·rename_i h1 hO;split at ha
    ·rename_i v1 hA;cases ha;have eN:h.n=bn h.n.toNat:=(zY _).symm;obtain⟨a1,a2,a3,a4⟩:=zjV s.news h h' hO;have hg:∀b,(zym (bn s.objs.length) h.n s.news ρ).get b=if s.objs.length≤b.toNat∧b.toNat<s.objs.length+s.news.length then some (bn (h.n.toNat+(b.toNat-s.objs.length))) else ρ.get b:=by
      intro b;have:=zjU s.news s.objs.length h.n.toNat ρ b.toNat
      rwa [zY,zY]at this
     have hlt2:∀b b',ρ.get b=some b'→b'.toNat<h.n.toNat:=fun b b' hb=>by
      obtain⟨cs,cs',st,_,q,_⟩:=hpair b b' hb;exact H.keys b' _ q
     have agree:∀b x x',ρc.get b=some x→(zym (bn s.objs.length) h.n s.news ρ).get b=some x'→za2 φ φ2 ρc s.objs.length h.n.toNat x'=φ2 x:=by
      intro b x x' q1 q2;rw[hg b]at q2;split at q2
      ·rename_i hr;cases q2;unfold za2;rw[zK,Yzb (by omega),show s.objs.length+(h.n.toNat+(b.toNat-s.objs.length)-h.n.toNat)=b.toNat by omega,zY,xa q1]
      ·have hb:=hlt b x' q2;have hi:=hid b.toNat (by rwa [hn]at hb);rw[zY,q1]at hi;cases hi;unfold za2;rw[Yzd (hlt2 b x' q2),he _ hb,xa q2]
     have rng:∀b x',(zym (bn s.objs.length) h.n s.news ρ).get b=some x'→x'.toNat<h'.n.toNat:=by
      intro b x' q;rw[hg b]at q;split at q
      ·cases q;rw[zK,a1];omega
      ·have:=hlt2 b x' q;omega
     have hext:Ext h.n.toNat φ (za2 φ φ2 ρc s.objs.length h.n.toNat):=fun b hb=>by unfold za2;rw[Yzd hb]
     have hrA:=zvI hA;have hnew:∀j o,s.news[j]? = some o→∃cs cs' cs2 st x,o=.cells cs st∧RCs (zym (bn s.objs.length) h.n s.news ρ) cs cs'∧h'.t.get (bn (h.n.toNat+j))=some (.cells cs' st)∧ρc.get (bn (s.objs.length+j))=some x∧h2.t.get x=some (.cells cs2 st)∧RCs ρc cs cs2∧
       za2 φ φ2 ρc s.objs.length h.n.toNat (bn (h.n.toNat+j))=φ2 x∧w.heap.size≤(φ2 x).blk:=by
      intro j o hj;obtain⟨cs,cs',st,rfl,r1,g1⟩:=a3 j o hj;have hjl:=(Lz0.1 hj).1;have hj1:(s.objs++s.news)[s.objs.length+j]? = some (.cells cs st):=by
       rw[Lz8 (by omega),Yyc];exact hj
      obtain⟨x,hx⟩:=zal (s.objs++s.news) 0 _ _ hallc hj1;rw[Yze]at hx;obtain⟨d1,d2,st2,k1,k2,k3⟩:=hpairc _ x hx;unfold Zm.heap1 at k1;rw[ke,zK,hj1]at k1;cases k1;refine⟨cs,cs',d2,st,x,rfl,r1,g1,hx,k2,k3,agree _ x _ hx ?_,?_⟩
      ·rw[hg,zK,Yzd (by omega),Yyc]
      ·rcases H2.own x _ k2 trivial with⟨b,b',q1,q2⟩|q
       ·exfalso;have hb:=hlt b b' q1;have e1:φ2 b=φ b':=(he b hb).trans (xa q1);obtain⟨c1,c2,st3,z1,_,_⟩:=hpair b b' q1;unfold Zm.heap at z1;rw[ke]at z1;obtain⟨c3,st4,z2,z3⟩:=j0 s.objs 0 b.toNat _ e2 z1;rw[Yze,zY]at z3;have:=H2.inj x b _ _ k2 z3 trivial trivial (by rw[q2,e1]);subst this;have hi:=hid x.toNat (by rwa [hn]at hb);rw[zY]at hi;have:=congrArg BN.toNat (hinjc _ _ _ hx hi);rw[zK]at this;rw[hn]at hb;omega
       ·exact q
     have hcase:∀b o,h'.t.get b=some o→(b.toNat<h.n.toNat∧h.t.get b=some o)∨∃j,b=bn (h.n.toNat+j)∧∃o',s.news[j]? = some o':=by
      intro b o hb;by_cases h1:b.toNat<h.n.toNat
      ·have:=a2 b.toNat h1;rw[zY]at this;exact .inl ⟨h1,by rw[←this];exact hb⟩
      ·by_cases h3:b.toNat<h.n.toNat+s.news.length
       ·refine .inr ⟨b.toNat-h.n.toNat,?_,_,Lz5 (by omega)⟩;rw[show h.n.toNat+(b.toNat-h.n.toNat)=b.toNat by omega,zY]
       ·have:=a4 b.toNat (by omega);rw[zY]at this;rw[this]at hb;exact absurd (H.keys b o hb) h1
     have hkeep:∀k,k<w.heap.size→(¬∃b b',ρ.get b=some b'∧k=(φ b').blk)→w9.heap[k]? = w.heap[k]?:=fun k hk hS=>H2.kept k hk hS;have hold:∀b o,h.t.get b=some o→ORel φ h.n.toNat w9 b o:=by
      intro b o hb;by_cases hl:live o
      ·by_cases hm:∃c c',ρ.get c=some c'∧(φ b).blk=(φ c').blk
       ·obtain⟨c,c',hρ,hblk⟩:=hm;obtain⟨cs,cs',st,k1,k2,k3⟩:=hpair c c' hρ;have:=H.inj b c' _ _ hb k2 hl trivial hblk;subst this;cases hb.symm.trans k2;have k1':=k1;unfold Zm.heap at k1';rw[ke]at k1';obtain⟨cs2,st2,q1,q2⟩:=j0 s.objs 0 c.toNat _ e2 k1';rw[Yze,zY]at q2;cases q1;obtain⟨arr,e,g1,g2,g3,g4⟩:=H2.obj c _ q2;have ec:φ2 c=φ b:=(he c (hlt _ _ hρ)).trans (xa hρ);obtain⟨_,_,_,_,_,o4⟩:=H.obj b _ hb;refine⟨arr,e,by rw[←ec];exact g1,fun i x hx=>?_,by rw[←ec];exact g3,o4⟩;have hi:i<cs.length:=by
         have:=(Lz0.1 hx).1;have:=k3.1;omega
        obtain⟨x',j1,j2⟩:=k3.2 i cs[i] (Lz5 hi);rw[hx]at j1;cases j1;have:=g2 i cs[i] (Lz5 hi);rw[ec]at this;rw[this,zaT j2];have hwc:wfC (via ρ φ) s.heap.n.toNat cs[i]:=zla hlt j2 (o4 x (Lz3 hx));rw[vL he hwc]
       ·exact(H.obj b o hb).world fun _=>hkeep _ ((H.obj b o hb).there hl) (fun⟨c,c',h1,h2⟩=>hm ⟨c,c',h1,h2⟩)
      ·exact(H.obj b o hb).world fun hh=>absurd hh hl
     have hle':h.n.toNat≤h'.n.toNat:=by omega
     have eold:∀b,b.toNat<h.n.toNat→za2 φ φ2 ρc s.objs.length h.n.toNat b=φ b:=fun b hb=>hext b hb;refine⟨za2 φ φ2 ρc s.objs.length h.n.toNat,by rw[zvf agree hres hrA],hext,?_,zn4 agree rng hres hrA hv2,hle'⟩;refine⟨fun b o hb=>?_,fun b o hb=>?_,fun b o hb=>?_,fun b c o o' hb hc hl hl' hh=>?_,fun b o hb hl=>?_,H2.os.trans H.os,H2.tape.trans H.tape,H2.output.trans H.output,YzA H.size H2.size,YzA H.drawn H2.drawn,fun k hk hS=>?_,H2.glob,fun b o hb hl=>?_,fun b o hb hl=>?_⟩
     ·rcases hcase b o hb with⟨q,_⟩|⟨j,rfl,o',hj⟩
      ·omega
      ·have:=(Lz0.1 hj).1;rw[zK];omega
     ·rcases hcase b o hb with⟨q,hb'⟩|⟨j,rfl,o',hj⟩
      ·rw[eold b q];exact H.okb b o hb'
      ·obtain⟨cs,cs',cs2,st,x,rfl,r1,g1,hx,g2,r2,ex,fr⟩:=hnew j o' hj;rw[ex];exact H2.okb x _ g2
     ·rcases hcase b o hb with⟨q,hb'⟩|⟨j,rfl,o',hj⟩
      ·exact(hold b o hb').extW (H.okk b o hb') hext.w hle'
      ·obtain⟨cs,cs',cs2,st,x,rfl,r1,g1,hx,g2,r2,ex,fr⟩:=hnew j o' hj;rw[g1]at hb;cases hb;obtain⟨arr,e,z1,z2,z3,z4⟩:=H2.obj x _ g2;refine⟨arr,e,by rw[ex];exact z1,fun i c hc=>?_,by rw[ex];exact z3,zdV agree rng r2 r1 z4⟩;obtain⟨p,hp,hpc⟩:=zs4 r1 hc;obtain⟨c2,k1,k2⟩:=r2.2 i p hp;rw[ex,zn5 agree k2 hpc];exact z2 i c2 k1
     ·rcases hcase b o hb with⟨q,hb'⟩|⟨j,rfl,p,hj⟩
      ·rcases hcase c o' hc with⟨q',hc'⟩|⟨j',rfl,p',hj'⟩
       ·rw[eold b q,eold c q']at hh;exact H.inj b c o o' hb' hc' hl hl' hh
       ·obtain⟨cs,cs',cs2,st,x,rfl,r1,g1,hx,g2,r2,ex,fr⟩:=hnew j' p' hj';have:=(H.obj b o hb').there hl;rw[eold b q,ex]at hh;omega
      ·obtain⟨cs,cs',cs2,st,x,rfl,r1,g1,hx,g2,r2,ex,fr⟩:=hnew j p hj;rcases hcase c o' hc with⟨q',hc'⟩|⟨j',rfl,p',hj'⟩
       ·have:=(H.obj c o' hc').there hl';rw[ex,eold c q']at hh;omega
       ·obtain⟨ds,ds',ds2,st',x',rfl,r1',g1',hx',g2',r2',ex',fr'⟩:=hnew j' p' hj';rw[ex,ex']at hh;have:=H2.inj x x' _ _ g2 g2' trivial trivial hh;subst this;have:=congrArg BN.toNat (hinjc _ _ _ hx hx');rw[zK,zK]at this;rw[show j=j' by omega]
     ·rcases hcase b o hb with⟨q,hb'⟩|⟨j,rfl,o',hj⟩
      ·rw[eold b q];exact H.own b o hb' hl
      ·obtain⟨cs,cs',cs2,st,x,rfl,r1,g1,hx,g2,r2,ex,fr⟩:=hnew j o' hj;rw[ex];exact .inr (YzA H.size fr)
     ·by_cases hm:∃c c',ρ.get c=some c'∧k=(φ c').blk
      ·obtain⟨c,c',hρ,rfl⟩:=hm;obtain⟨cs,cs',st,_,k2,_⟩:=hpair c c' hρ;rcases H.own c' _ k2 trivial with h1|h1
       ·exact absurd h1 hS
       ·omega
      ·rw[hkeep k (Lz9 hk H.size) hm];exact H.kept k hk hS
     ·rcases hcase b o hb with⟨q,hb'⟩|⟨j,rfl,o',hj⟩
      ·rw[eold b q];exact H.flat b o hb' hl
      ·obtain⟨cs,cs',cs2,st,x,rfl,r1,g1,hx,g2,r2,ex,fr⟩:=hnew j o' hj;rw[ex];exact H2.flat x _ g2 trivial
     ·rcases hcase b o hb with⟨q,hb'⟩|⟨j,rfl,o',hj⟩
      ·rw[eold b q];exact H.ng b o hb' hl
      ·obtain⟨cs,cs',cs2,st,x,rfl,r1,g1,hx,g2,r2,ex,fr⟩:=hnew j o' hj;rw[ex];exact H2.ng x _ g2 trivial
    ·cases ha
   ·cases ha
  ·cases hchk
 ·cases hchk
theorem qd{g:Nat}{args:List Zb}{r:Zb×Za}:∀(l:List Zm),qX g args h l=some r→∃s∈l,∃ρ,s.g=g∧s.fits args h=some ρ∧s.app h ρ=some r
 | [],e=>by cases e
 |s::l,e=>by
  unfold qX at e;cases hq:Nat.beq g s.g with
  |true=>
   rw[hq]at e;simp only[Yza]at e;split at e
   ·rename_i ρ hf;exact⟨s,by simp,ρ,(beq_true hq).symm,hf,e⟩
   ·obtain⟨s',k1,k2⟩:=qd l e;exact⟨s',by simp[k1],k2⟩
  |false=>
   rw[hq]at e;obtain⟨s',k1,k2⟩:=qd l e;exact⟨s',by simp[k1],k2⟩
theorem zos{sums:List Zm}(hs:∀s∈sums,vY P s){call:zg}(C:yT P call):yT P (zq1 sums call):=by
 intro w0 S φ h w args v h2 H hw;refine⟨fun g e=>?_,fun l e=>(C w0 S φ h w args v h2 H hw).2 l e⟩;unfold zq1 at e;simp only at e;split at e
 ·rename_i r hf;cases e;obtain⟨s,h1,ρ,rfl,h3,h4⟩:=qd sums hf;exact zrd (hs s h1) H hw h3 h4
 ·exact(C w0 S φ h w args v h2 H hw).1 g e
theorem zjL{fs:Nat→Option Zl}(hfs:zyv P fs){sums:List Sum}(hs:∀s∈sums,u6 P s){nsums:List Zm}(hn:∀s∈nsums,vY P s):∀n,yT P (zhL (zX P) fs sums nsums n)
 |0=>zey
 |n+1=>zos hn (zd0 hs (zfe (zjL hfs hs hn n) hfs n))
end
end Go.CE
end
section
namespace Go.CE
open Go.RowKit
noncomputable section
structure Srt where
 f:List Nat
 st:Nat
def ltZ:List Int→List Int→Bool
 |a::as,b::bs=>if a<b then true else if b<a then false else ltZ as bs
 |_,_=>false
def leZ(a b:List Int):Bool:=!ltZ b a
def kV(l:List (List Int)):List (List Int):=l.mergeSort leZ
def zys(a b:List Int):Int:=if ltZ a b=true then -1 else if ltZ b a=true then 1 else 0
def y0(l:List (List Int)):List Zc:=l.flatten.map (Zc.int .i64)
open Classical in
def zaW(t:Srt):List Zb→Za→Res
 | [.s (.one .nils),.s (.one (.fn f []))],h=>if f∈t.f then some (.tup [],h) else none
 | [.s (.one (.slc b off len _ _)),.s (.one (.fn f []))],h=>
  if H:f∈t.f∧off=0∧∃l:List (List Int),l.length=len∧(∀r∈l,r.length=t.st)∧h.t.get b=some (.cells (y0 l) t.st)∧len<4611686018427387904 then
   some (.tup [],h.put b (.cells (y0 (kV (Classical.choose H.2.2))) t.st))
  else none
 |_,_=>none
def zdZ(srt:Nat→Option Srt)(call:zg):zg
 | .inl g,args,h=>
  match srt g with
  |some t=>zaW t args h
  |none=>call (.inl g) args h
 | .inr l,args,h=>call (.inr l) args h
def z6(cc:Nat→Code→xt)(fs:Nat→Option Zl)(sums:List Sum)(srt:Nat→Option Srt)(n:Nat):zg:=
 Nat.rec (motive:=fun _=>zg) (fun _ _ _=>none) (fun f ih=>zdZ srt (zcT sums (zba cc fs ih f))) n
end
theorem ziB{st:Nat}:∀{l l':List (List Int)},l.length=l'.length→(∀r∈l,r.length=st)→(∀r∈l',r.length=st)→l.flatten=l'.flatten→l=l'
 | [],[],_,_,_,_=>rfl
 |r::l,r'::l',hl,h,h',e=>by
  rw[List.flatten_cons,List.flatten_cons]at e;have hr:r.length=r'.length:=(h r (Yzi ..)).trans (h' r' (Yzi ..)).symm;obtain⟨e1,e2⟩:=List.append_inj e hr;rw[e1,ziB (by simpa using hl) (fun x hx=>h x (Yzf _ hx)) (fun x hx=>h' x (Yzf _ hx)) e2]
 | [],_::_,hl,_,_,_=>by simp at hl
 |_::_,[],hl,_,_,_=>by simp at hl
theorem int_inj:∀{l l':List Int},l.map (Zc.int .i64)=l'.map (Zc.int .i64)→l=l'
 | [],[],_=>rfl
 |a::l,b::l',e=>by
  simp only[Yzp,List.cons.injEq,Zc.int.injEq,true_and]at e;rw[e.1,int_inj e.2]
 | [],_::_,e=>by simp at e
 |_::_,[],e=>by simp at e
theorem zc6{t:Srt}{f:Nat}(hf:f∈t.f)(h:Za):zaW t [.s (.one .nils),.s (.one (.fn f []))] h=some (.tup [],h):=Yzd hf
theorem zke{t:Srt}{f:Nat}(hf:f∈t.f){b:BN}{len cap:Nat}{ex:Bool}{h:Za}{l:List (List Int)}(h1:l.length=len)(h2:∀r∈l,r.length=t.st)(h3:h.t.get b=some (.cells (y0 l) t.st))(h4:len<4611686018427387904):
  zaW t [.s (.one (.slc b 0 len cap ex)),.s (.one (.fn f []))] h=some (.tup [],h.put b (.cells (y0 (kV l)) t.st)):=by
 have H:f∈t.f∧0=0∧∃l:List (List Int),l.length=len∧(∀r∈l,r.length=t.st)∧h.t.get b=some (.cells (y0 l) t.st)∧len<4611686018427387904:=⟨hf,rfl,l,h1,h2,h3,h4⟩;unfold zaW;simp only;rw[dif_pos H];obtain⟨k1,k2,k3,_⟩:=Yyp H.2.2;have e:Classical.choose H.2.2=l:=ziB (k1.trans h1.symm) k2 h2 (int_inj (Ze.cells.inj (Option.some.inj (h3.symm.trans k3))).1.symm);rw[e]
theorem zkf{t:Srt}{args:List Zb}{h h2:Za}{v:Zb}(e:zaW t args h=some (v,h2)):v=.tup []∧∃f∈t.f,((args=[.s (.one .nils),.s (.one (.fn f []))]∧h2=h)∨
  ∃b len cap ex l,args=[.s (.one (.slc b 0 len cap ex)),.s (.one (.fn f []))]∧l.length=len∧(∀r∈l,r.length=t.st)∧h.t.get b=some (.cells (y0 l) t.st)∧len<4611686018427387904∧h2=h.put b (.cells (y0 (kV l)) t.st)):=by
 unfold zaW at e;split at e
 ·split at e
  ·rename_i hf;cases e;exact⟨rfl,_,hf,.inl ⟨rfl,rfl⟩⟩
  ·cases e
 ·rename_i b off len cap ex f;split at e
  ·rename_i H;cases e;obtain⟨k1,k2,k3,k4⟩:=Yyp H.2.2;obtain⟨hf,rfl,_⟩:=H;exact⟨rfl,_,hf,.inr ⟨b,len,cap,ex,_,rfl,k1,k2,k3,k4,rfl⟩⟩
  ·cases e
 ·cases e
def zid(P:Program)(g:Nat)(t:Srt):Prop:=
 ∀(w0:World) (S:Nat→Prop) (φ:Phi) (h:Za) (w:World) (args:List Zb) (v:Zb) (h2:Za),Zd w0 S φ h w→(∀x∈args,wfA φ h.n.toNat x)→zaW t args h=some (v,h2)→
  (∀as w,(callFunc g as).run P w=.ok (.enter g as) w)∧CallsIn (FR none) 0 P g (args.map (zq φ)).toArray w (Ret w0 S φ h v h2)
theorem zor{P:Program}{srt:Nat→Option Srt}(hs:∀g t,srt g=some t→zid P g t){call:zg}(C:yT P call):yT P (zdZ srt call):=by
 intro w0 S φ h w args v h2 H hw;refine⟨fun g e=>?_,fun l e=>(C w0 S φ h w args v h2 H hw).2 l e⟩;unfold zdZ at e;simp only at e;split at e
 ·rename_i t ht;exact hs g t ht w0 S φ h w args v h2 H hw e
 ·exact(C w0 S φ h w args v h2 H hw).1 g e
theorem zbC{P:Program}{fs:Nat→Option Zl}(hfs:zyv P fs){sums:List Sum}(hs:∀s∈sums,u6 P s){srt:Nat→Option Srt}(ht:∀g t,srt g=some t→zid P g t):∀n,yT P (z6 (zX P) fs sums srt n)
 |0=>zey
 |n+1=>zor ht (zd0 hs (zfe (zbC hfs hs ht n) hfs n))
def zt3:Nat→Option Srt:=fun _=>none
theorem zi1{P:Program}:∀g t,zt3 g=some t→zid P g t:=fun g t e=>by cases e
end Go.CE
end
