/-
  Lemmas. No condition.
-/
import Derived.Test.YtaknlhnolkgndaaGreatDoorVb
import Derived.Test.YtaknlhnolkgndaaGreatDoorProg
noncomputable section
namespace Go.Proofs.Tryz.Kn
open Go Go.CE Go.RowKit
def fs:Nat->Option Zj:=cFs (yL Tryz.prog)
theorem zpE:zqI Tryz.prog fs:=zlQ _
def zyy:Nat->Nat->List UInt8->List UInt8
 |0,_,acc=>acc
 |f+1,n,acc=>bif Nat.ble n 9 then UInt8.ofNat (48+n)::acc else zyy f (n / 10) (UInt8.ofNat (48+n % 10)::acc)
def dec(n:Nat):ByteArray:=⟨⟨zyy 200 n []⟩⟩
def str(s:ByteArray):Zb:=.s (.one (.str s))
def zac(n:Nat):Sum:=⟨104,[str (dec n),.s (.one (.int .i64 24))],[],.tup [.one (.str (dec (n^24))),.one (.int .i64 0)]⟩
def ofS(n:Nat):Sum:=⟨105,[.s (.one (.int .i64 (.ofNat n)))],[],str (dec n)⟩
def zyk(a b:Nat):Sum:=⟨106,[str (dec a),str (dec b)],[],str (dec (a*b))⟩
def ztn(a b:Nat):Int:=bif Nat.ble (Nat.succ b) a then 1 else bif Nat.ble (Nat.succ a) b then -1 else 0
def zpP(a b:Nat):Sum:=⟨107,[str (dec a),str (dec b)],[],.s (.one (.int .i64 (ztn a b)))⟩
def lim(den j:Nat):Nat:=2*den^24*4^j
def xg(x:Nat×Nat):List Sum:=zyk (x.1^24) 2::(List.range x.2).map fun j=>zyk (lim x.1 j) 4
def yj(x:Nat×Nat×Nat):List Sum:=(List.range (x.2.2+1)).map fun j=>zpP (x.1^24) (lim x.2.1 j)
def pows:List Nat:=[2,4,6,8,10,12,14,16,20,24,28,32,40,48,56,64,80,96,112,128,160,192,256,320]
def dens:List (Nat×Nat):=[(2,0),(4,0),(6,5),(8,7),(10,8),(12,5),(14,2),(16,7),(20,8),(24,9),(28,2),(32,7),(40,8),(48,9),(56,9),(64,7),(80,8),(96,9),(112,2),(128,7),(256,4)]
def prs:List (Nat×Nat×Nat):=[(2,2,0),(4,4,0),(8,6,5),(8,8,0),(10,8,4),(12,8,7),(16,10,8),(16,12,5),(16,14,2),(16,16,0),(20,16,4),(24,16,7),(24,24,0),(32,20,8),(32,24,5),(32,28,2),(32,32,0),(40,24,9),(40,32,4),(40,40,0),(48,32,7),(48,40,3),(48,48,0),(64,40,8),(64,48,5),(64,56,2),(64,64,0),(80,48,9),(80,56,6),(80,64,4),(80,80,0),(96,56,9),(96,64,7),(96,96,0),(128,80,8),(128,112,2),(160,96,9),(160,128,4),(192,128,7),(320,256,4)]
def yS(l:List Sum):Bool:=l.all fun s=>s.chk (zqy (zH Tryz.prog) fs 100000)
theorem zeW{l:List Sum}(h:yS l=true):∀s∈l,ke Tryz.prog s:=fun s hs=>⟨_,zny zpE 100000,YzI.1 h s hs⟩
theorem zpQ{l m:List Sum}(h:∀s∈l,ke Tryz.prog s)(h':∀s∈m,ke Tryz.prog s):∀s∈l++m,ke Tryz.prog s:=fun s hs=>(List.mem_append.1 hs).elim (h s) (h' s)
end Go.Proofs.Tryz.Kn
end
