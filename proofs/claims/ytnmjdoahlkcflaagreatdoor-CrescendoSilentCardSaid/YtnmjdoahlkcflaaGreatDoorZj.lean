/-
  Lemmas. No condition.
-/
import Derived.Test.YtnmjdoahlkcflaaGreatDoorZf
import Derived.Test.YtnmjdoahlkcflaaGreatDoorZg
import Derived.Test.YtnmjdoahlkcflaaGreatDoorZh
import Derived.Test.YtnmjdoahlkcflaaGreatDoorZi
section
namespace Go.Proofs.Tryz.Kn
open Go Go.CE Go.RowKit
theorem zoy:∀n∈pows,y4 [zb0 n,ofS n]=true:=by
 intro n h;simp only[pows,Yzu,Yzv,or_false]at h;rcases h with rfl|rfl|rfl|rfl|rfl|rfl|rfl|rfl|rfl|rfl|rfl|rfl|rfl|rfl|rfl|rfl|rfl|rfl|rfl|rfl|rfl|rfl|rfl|rfl
 ·exact kp2
 ·exact kp4
 ·exact kp6
 ·exact kp8
 ·exact zCW
 ·exact zCV
 ·exact zCU
 ·exact zCT
 ·exact zCS
 ·exact zCR
 ·exact zCQ
 ·exact zCP
 ·exact zCO
 ·exact zCN
 ·exact zCM
 ·exact zCL
 ·exact zCK
 ·exact zCJ
 ·exact zAo
 ·exact zAn
 ·exact zAm
 ·exact zAl
 ·exact zAk
 ·exact zAj
theorem zuL:∀x∈dens,y4 (xz x)=true:=by
 intro x h;simp only[dens,Yzu,Yzv,or_false]at h;rcases h with rfl|rfl|rfl|rfl|rfl|rfl|rfl|rfl|rfl|rfl|rfl|rfl|rfl|rfl|rfl|rfl|rfl|rfl|rfl|rfl|rfl
 ·exact km2
 ·exact km4
 ·exact km6
 ·exact km8
 ·exact zDa
 ·exact zC9
 ·exact zC8
 ·exact zC7
 ·exact zC6
 ·exact zC5
 ·exact zC4
 ·exact zC3
 ·exact zC2
 ·exact zC1
 ·exact zC0
 ·exact zCZ
 ·exact zCY
 ·exact zCX
 ·exact zAr
 ·exact zAq
 ·exact zAp
theorem zvV:∀x∈prs,y4 (yx x)=true:=by
 intro x h;simp only[prs,Yzu,Yzv,or_false]at h;rcases h with rfl|rfl|rfl|rfl|rfl|rfl|rfl|rfl|rfl|rfl|rfl|rfl|rfl|rfl|rfl|rfl|rfl|rfl|rfl|rfl|rfl|rfl|rfl|rfl|rfl|rfl|rfl|rfl|rfl|rfl|rfl|rfl|rfl|rfl|rfl|rfl|rfl|rfl|rfl|rfl
 ·exact zAv
 ·exact zAu
 ·exact zAt
 ·exact zAs
 ·exact zxL
 ·exact zxK
 ·exact zvn
 ·exact zvm
 ·exact zvl
 ·exact zvk
 ·exact zvj
 ·exact zvi
 ·exact zvh
 ·exact zvg
 ·exact zvf
 ·exact zve
 ·exact zvd
 ·exact zvc
 ·exact zvb
 ·exact zva
 ·exact zu9
 ·exact zu8
 ·exact zu7
 ·exact zu6
 ·exact zu5
 ·exact zu4
 ·exact zu3
 ·exact zu2
 ·exact zu1
 ·exact zu0
 ·exact zuZ
 ·exact zuY
 ·exact zuX
 ·exact zuW
 ·exact zsp
 ·exact zpE
 ·exact zso
 ·exact zpD
 ·exact zpC
 ·exact zpB
def shSums:List Sum:=pows.map zb0++pows.map ofS++dens.flatMap xz++prs.flatMap yx
theorem zn8:∀s∈shSums,zbU Tryz.prog s:=by
 intro s hs;rcases Yym.1 hs with hs|hs
 ·rcases Yym.1 hs with hs|hs
  ·rcases Yym.1 hs with hs|hs
   ·obtain⟨n,hn,rfl⟩:=List.mem_map.1 hs;exact zg1 (zoy n hn) _ (Yzg ..)
   ·obtain⟨n,hn,rfl⟩:=List.mem_map.1 hs;exact zg1 (zoy n hn) _ (Yzf _ (Yzg ..))
  ·obtain⟨x,hx,h⟩:=List.mem_flatMap.1 hs;exact zg1 (zuL x hx) _ h
 ·obtain⟨x,hx,h⟩:=List.mem_flatMap.1 hs;exact zg1 (zvV x hx) _ h
end Go.Proofs.Tryz.Kn
end
