/-
  Lemmas. No condition.
-/
import Derived.Test.YtfmceamccfhfcaaGreatDoorXf
import Derived.Test.YtfmceamccfhfcaaGreatDoorXg
import Derived.Test.YtfmceamccfhfcaaGreatDoorXh
import Derived.Test.YtfmceamccfhfcaaGreatDoorXi
section
namespace Go.Proofs.Tryz.Kn
open Go Go.CE Go.RowKit
theorem zoo:∀n∈pows,xy [za0 n,ofS n]=true:=by
 intro n h;simp only[pows,YzA,Yzs,or_false]at h;rcases h with rfl|rfl|rfl|rfl|rfl|rfl|rfl|rfl|rfl|rfl|rfl|rfl|rfl|rfl|rfl|rfl|rfl|rfl|rfl|rfl|rfl|rfl|rfl|rfl
 ·exact kp2
 ·exact kp4
 ·exact kp6
 ·exact kp8
 ·exact zDJ
 ·exact zDI
 ·exact zDH
 ·exact zDG
 ·exact zDF
 ·exact zDE
 ·exact zDD
 ·exact zDC
 ·exact zDB
 ·exact zDA
 ·exact zDz
 ·exact zDy
 ·exact zDx
 ·exact zDw
 ·exact zAV
 ·exact zAU
 ·exact zAT
 ·exact zAS
 ·exact zAR
 ·exact zAQ
theorem zvf:∀x∈dens,xy (xX x)=true:=by
 intro x h;simp only[dens,YzA,Yzs,or_false]at h;rcases h with rfl|rfl|rfl|rfl|rfl|rfl|rfl|rfl|rfl|rfl|rfl|rfl|rfl|rfl|rfl|rfl|rfl|rfl|rfl|rfl|rfl
 ·exact km2
 ·exact km4
 ·exact km6
 ·exact km8
 ·exact zDX
 ·exact zDW
 ·exact zDV
 ·exact zDU
 ·exact zDT
 ·exact zDS
 ·exact zDR
 ·exact zDQ
 ·exact zDP
 ·exact zDO
 ·exact zDN
 ·exact zDM
 ·exact zDL
 ·exact zDK
 ·exact zAY
 ·exact zAX
 ·exact zAW
theorem zwp:∀x∈prs,xy (yN x)=true:=by
 intro x h;simp only[prs,YzA,Yzs,or_false]at h;rcases h with rfl|rfl|rfl|rfl|rfl|rfl|rfl|rfl|rfl|rfl|rfl|rfl|rfl|rfl|rfl|rfl|rfl|rfl|rfl|rfl|rfl|rfl|rfl|rfl|rfl|rfl|rfl|rfl|rfl|rfl|rfl|rfl|rfl|rfl|rfl|rfl|rfl|rfl|rfl|rfl
 ·exact zA2
 ·exact zA1
 ·exact zA0
 ·exact zAZ
 ·exact zyh
 ·exact zyg
 ·exact zvU
 ·exact zvT
 ·exact zvS
 ·exact zvR
 ·exact zvQ
 ·exact zvP
 ·exact zvO
 ·exact zvN
 ·exact zvM
 ·exact zvL
 ·exact zvK
 ·exact zvJ
 ·exact zvI
 ·exact zvH
 ·exact zvG
 ·exact zvF
 ·exact zvE
 ·exact zvD
 ·exact zvC
 ·exact zvB
 ·exact zvA
 ·exact zvz
 ·exact zvy
 ·exact zvx
 ·exact zvw
 ·exact zvv
 ·exact zvu
 ·exact zvt
 ·exact zsG
 ·exact zpv
 ·exact zsF
 ·exact zpu
 ·exact zpt
 ·exact zps
def shSums:List Sum:=pows.map za0++pows.map ofS++dens.flatMap xX++prs.flatMap yN
theorem znR:∀s∈shSums,jM Tryz.prog s:=by
 intro s hs;rcases YzI.1 hs with hs|hs
 ·rcases YzI.1 hs with hs|hs
  ·rcases YzI.1 hs with hs|hs
   ·obtain⟨n,hn,rfl⟩:=List.mem_map.1 hs;exact zgm (zoo n hn) _ (Yzh ..)
   ·obtain⟨n,hn,rfl⟩:=List.mem_map.1 hs;exact zgm (zoo n hn) _ (Yzf _ (Yzh ..))
  ·obtain⟨x,hx,h⟩:=List.mem_flatMap.1 hs;exact zgm (zvf x hx) _ h
 ·obtain⟨x,hx,h⟩:=List.mem_flatMap.1 hs;exact zgm (zwp x hx) _ h
end Go.Proofs.Tryz.Kn
end
