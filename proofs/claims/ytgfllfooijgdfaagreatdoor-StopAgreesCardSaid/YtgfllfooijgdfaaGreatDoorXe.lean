/-
  Lemmas. No condition.
-/
import Derived.Test.YtgfllfooijgdfaaGreatDoorVb
import Derived.Test.YtgfllfooijgdfaaGreatDoorProg
noncomputable section
namespace Go.Proofs.Tryz.Kn
open Go Go.CE Go.RowKit
def fs:Nat→Option Zj:=cFs (yS Tryz.prog)
theorem ziL:zra Tryz.prog fs:=zjS _
def zvQ:Nat→Nat→List UInt8→List UInt8
 |0,_,acc=>acc
 |f+1,n,acc=>bif Nat.ble n 9 then UInt8.ofNat (48+n)::acc else zvQ f (n / 10) (UInt8.ofNat (48+n % 10)::acc)
def dec(n:Nat):ByteArray:=⟨⟨zvQ 200 n []⟩⟩
def str(s:ByteArray):Zb:=.s (.one (.str s))
def vZ(n:Nat):Sum:=⟨35,[str (dec n),.s (.one (.int .i64 24))],[],.tup [.one (.str (dec (n^24))),.one (.int .i64 0)]⟩
def ofS(n:Nat):Sum:=⟨36,[.s (.one (.int .i64 (.ofNat n)))],[],str (dec n)⟩
def zvG(a b:Nat):Sum:=⟨37,[str (dec a),str (dec b)],[],str (dec (a*b))⟩
def zrq(a b:Nat):Int:=bif Nat.ble (Nat.succ b) a then 1 else bif Nat.ble (Nat.succ a) b then -1 else 0
def zoO(a b:Nat):Sum:=⟨38,[str (dec a),str (dec b)],[],.s (.one (.int .i64 (zrq a b)))⟩
def lim(den j:Nat):Nat:=2*den^24*4^j
def yb(x:Nat×Nat):List Sum:=zvG (x.1^24) 2::(List.range x.2).map fun j=>zvG (lim x.1 j) 4
def zm(x:Nat×Nat×Nat):List Sum:=(List.range (x.2.2+1)).map fun j=>zoO (x.1^24) (lim x.2.1 j)
def pows:List Nat:=[1,2,3,4,5,6,7,8,10,12,14,16,20,24,28,32,40,48,56,64,80,96,112,128,160,192,224,256,320,384,448,512,640,768]
def dens:List (Nat×Nat):=[(1,0),(2,7),(3,5),(4,7),(5,8),(6,5),(7,2),(8,10),(10,8),(12,9),(14,9),(16,10),(20,8),(24,9),(28,9),(32,10),(40,8),(48,9),(56,9),(64,10),(80,8),(96,9),(112,9),(128,10),(160,8),(192,9),(224,9),(256,10),(320,8),(384,3),(448,9)]
def prs:List (Nat×Nat×Nat):=[(1,1,0),(2,2,0),(3,2,7),(4,3,5),(4,4,0),(5,4,4),(6,4,7),(6,6,0),(8,5,8),(8,6,5),(8,7,2),(8,8,0),(10,8,4),(12,8,7),(12,10,3),(12,12,0),(14,8,10),(16,10,8),(16,12,5),(16,14,2),(16,16,0),(20,12,9),(20,16,4),(20,20,0),(24,14,9),(24,16,7),(24,20,3),(24,24,0),(28,16,10),(28,24,3),(32,20,8),(32,24,5),(32,28,2),(32,32,0),(40,24,9),(40,28,6),(40,32,4),(40,40,0),(48,28,9),(48,32,7),(48,40,3),(48,48,0),(56,32,10),(56,40,6),(56,48,3),(56,56,0),(64,40,8),(64,48,5),(64,56,2),(64,64,0),(80,48,9),(80,56,6),(80,64,4),(80,80,0),(96,56,9),(96,64,7),(96,80,3),(96,96,0),(112,64,10),(112,80,6),(112,96,3),(112,112,0),(128,80,8),(128,96,5),(128,112,2),(128,128,0),(160,96,9),(160,112,6),(160,128,4),(160,160,0),(192,112,9),(192,128,7),(192,160,3),(192,192,0),(224,128,10),(224,160,6),(224,192,3),(256,160,8),(256,192,5),(256,224,2),(256,256,0),(320,192,9),(320,224,6),(320,256,4),(320,320,0),(384,224,9),(384,256,7),(384,320,3),(448,256,10),(448,320,6),(448,384,3),(512,320,8),(512,448,2),(640,448,6),(768,448,9)]
def zL(l:List Sum):Bool:=l.all fun s=>s.chk (zca (zH Tryz.prog) fs 100000)
theorem zdt{l:List Sum}(h:zL l=true):∀s∈l,kH Tryz.prog s:=fun s hs=>⟨_,qg ziL 100000,YzF.1 h s hs⟩
theorem zn5{l m:List Sum}(h:∀s∈l,kH Tryz.prog s)(h':∀s∈m,kH Tryz.prog s):∀s∈l++m,kH Tryz.prog s:=fun s hs=>(List.mem_append.1 hs).elim (h s) (h' s)
end Go.Proofs.Tryz.Kn
end
