/-
  Lemmas: She. No condition.
-/
import Derived.Test.YtekpghfdglhonaaGreatDoorUg
import Derived.Test.YtekpghfdglhonaaGreatDoorUh
import Derived.Test.YtekpghfdglhonaaGreatDoorUi
import Derived.Test.YtekpghfdglhonaaGreatDoorUj
section
namespace Go.Proofs.Tryz.Kn
open Go Go.CE Go.RowKit
theorem zjX:∀n∈pows,chks [powS n,ofS n]=true:=by
 intro n h;simp only[pows,List.mem_cons,List.not_mem_nil,or_false]at h;rcases h with rfl|rfl|rfl|rfl|rfl|rfl|rfl|rfl|rfl|rfl|rfl|rfl|rfl|rfl|rfl|rfl|rfl|rfl|rfl|rfl|rfl|rfl|rfl|rfl
 ·exact kp2
 ·exact kp4
 ·exact kp6
 ·exact kp8
 ·exact kp10
 ·exact kp12
 ·exact kp14
 ·exact kp16
 ·exact kp20
 ·exact kp24
 ·exact kp28
 ·exact kp32
 ·exact kp40
 ·exact kp48
 ·exact kp56
 ·exact kp64
 ·exact kp80
 ·exact kp96
 ·exact zs6
 ·exact zs5
 ·exact zs4
 ·exact zs3
 ·exact zs2
 ·exact zs1
theorem zpe:∀x∈dens,chks (xf x)=true:=by
 intro x h;simp only[dens,List.mem_cons,List.not_mem_nil,or_false]at h;rcases h with rfl|rfl|rfl|rfl|rfl|rfl|rfl|rfl|rfl|rfl|rfl|rfl|rfl|rfl|rfl|rfl|rfl|rfl|rfl|rfl|rfl
 ·exact km2
 ·exact km4
 ·exact km6
 ·exact km8
 ·exact km10
 ·exact km12
 ·exact km14
 ·exact km16
 ·exact km20
 ·exact km24
 ·exact km28
 ·exact km32
 ·exact km40
 ·exact km48
 ·exact km56
 ·exact km64
 ·exact km80
 ·exact km96
 ·exact zs9
 ·exact zs8
 ·exact zs7
theorem zqb:∀x∈prs,chks (yi x)=true:=by
 intro x h;simp only[prs,List.mem_cons,List.not_mem_nil,or_false]at h;rcases h with rfl|rfl|rfl|rfl|rfl|rfl|rfl|rfl|rfl|rfl|rfl|rfl|rfl|rfl|rfl|rfl|rfl|rfl|rfl|rfl|rfl|rfl|rfl|rfl|rfl|rfl|rfl|rfl|rfl|rfl|rfl|rfl|rfl|rfl|rfl|rfl|rfl|rfl|rfl|rfl
 ·exact ztd
 ·exact ztc
 ·exact ztb
 ·exact zta
 ·exact zrt
 ·exact zrs
 ·exact zpN
 ·exact zpM
 ·exact zpL
 ·exact zpK
 ·exact zpJ
 ·exact zpI
 ·exact zpH
 ·exact zpG
 ·exact zpF
 ·exact zpE
 ·exact zpD
 ·exact zpC
 ·exact zpB
 ·exact zpA
 ·exact zpz
 ·exact zpy
 ·exact zpx
 ·exact zpw
 ·exact zpv
 ·exact zpu
 ·exact zpt
 ·exact zps
 ·exact zpr
 ·exact zpq
 ·exact zpp
 ·exact zpo
 ·exact zpn
 ·exact zpm
 ·exact zng
 ·exact zkS
 ·exact znf
 ·exact zkR
 ·exact zkQ
 ·exact zkP
def shSums:List Sum:=pows.map powS++pows.map ofS++dens.flatMap xf++prs.flatMap yi
theorem zjx:∀s∈shSums,jf Tryz.prog s:=by
 intro s hs;rcases List.mem_append.1 hs with hs|hs
 ·rcases List.mem_append.1 hs with hs|hs
  ·rcases List.mem_append.1 hs with hs|hs
   ·obtain⟨n,hn,rfl⟩:=List.mem_map.1 hs;exact zdT (zjX n hn) _ (List.mem_cons_self ..)
   ·obtain⟨n,hn,rfl⟩:=List.mem_map.1 hs;exact zdT (zjX n hn) _ (List.mem_cons_of_mem _ (List.mem_cons_self ..))
  ·obtain⟨x,hx,h⟩:=List.mem_flatMap.1 hs;exact zdT (zpe x hx) _ h
 ·obtain⟨x,hx,h⟩:=List.mem_flatMap.1 hs;exact zdT (zqb x hx) _ h
end Go.Proofs.Tryz.Kn
end
