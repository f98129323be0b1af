/-
  Lemmas. No condition.
-/
import Derived.Test.YtkgdjnaidkhniaaGreatDoorVb
import Derived.Test.YtkgdjnaidkhniaaGreatDoorProg
noncomputable section
namespace Go.Proofs.Tryz.Kn
open Go Go.CE Go.RowKit
def fs:Nat->Option Zn:=cFs (yI Tryz.prog)
theorem zBr:zy8 Tryz.prog fs:=zqW _
def zFo:Nat->Nat->List UInt8->List UInt8
 |0,_,acc=>acc
 |f+1,n,acc=>bif Nat.ble n 9 then UInt8.ofNat (48+n)::acc else zFo f (n / 10) (UInt8.ofNat (48+n % 10)::acc)
def dec(n:Nat):ByteArray:=⟨⟨zFo 200 n []⟩⟩
def str(s:ByteArray):Zb:=.s (.one (.str s))
def zdy(n:Nat):Sum:=⟨135,[str (dec n),.s (.one (.int .i64 24))],[],.tup [.one (.str (dec (n^24))),.one (.int .i64 0)]⟩
def ofS(n:Nat):Sum:=⟨136,[.s (.one (.int .i64 (.ofNat n)))],[],str (dec n)⟩
def zFe(a b:Nat):Sum:=⟨137,[str (dec a),str (dec b)],[],str (dec (a*b))⟩
def zzo(a b:Nat):Int:=bif Nat.ble (Nat.succ b) a then 1 else bif Nat.ble (Nat.succ a) b then -1 else 0
def zwk(a b:Nat):Sum:=⟨138,[str (dec a),str (dec b)],[],.s (.one (.int .i64 (zzo a b)))⟩
def lim(den j:Nat):Nat:=2*den^24*4^j
def xP(x:Nat×Nat):List Sum:=zFe (x.1^24) 2::(List.range x.2).map fun j=>zFe (lim x.1 j) 4
def yC(x:Nat×Nat×Nat):List Sum:=(List.range (x.2.2+1)).map fun j=>zwk (x.1^24) (lim x.2.1 j)
def pows:List Nat:=[2,4,6,8,10,12,14,16,20,24,28,32,40,48,56,64,80,96,112,128,160,192,256,320]
def dens:List (Nat×Nat):=[(2,0),(4,0),(6,5),(8,7),(10,8),(12,5),(14,2),(16,7),(20,8),(24,9),(28,2),(32,7),(40,8),(48,9),(56,9),(64,7),(80,8),(96,9),(112,2),(128,7),(256,4)]
def prs:List (Nat×Nat×Nat):=[(2,2,0),(4,4,0),(8,6,5),(8,8,0),(10,8,4),(12,8,7),(16,10,8),(16,12,5),(16,14,2),(16,16,0),(20,16,4),(24,16,7),(24,24,0),(32,20,8),(32,24,5),(32,28,2),(32,32,0),(40,24,9),(40,32,4),(40,40,0),(48,32,7),(48,40,3),(48,48,0),(64,40,8),(64,48,5),(64,56,2),(64,64,0),(80,48,9),(80,56,6),(80,64,4),(80,80,0),(96,56,9),(96,64,7),(96,96,0),(128,80,8),(128,112,2),(160,96,9),(160,128,4),(192,128,7),(320,256,4)]
def xi(l:List Sum):Bool:=l.all fun s=>s.chk (zn4 (zT Tryz.prog) fs 100000)
theorem zjb{l:List Sum}(h:xi l=true):∀s∈l,zd9 Tryz.prog s:=fun s hs=>⟨_,zmw zBr 100000,YzJ.1 h s hs⟩
theorem zvo{l m:List Sum}(h:∀s∈l,zd9 Tryz.prog s)(h':∀s∈m,zd9 Tryz.prog s):∀s∈l++m,zd9 Tryz.prog s:=fun s hs=>(List.mem_append.1 hs).elim (h s) (h' s)
end Go.Proofs.Tryz.Kn
end
