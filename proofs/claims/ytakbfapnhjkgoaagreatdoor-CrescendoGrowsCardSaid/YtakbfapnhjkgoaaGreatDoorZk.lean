/-
  Lemmas. No condition.
-/
import Derived.Test.YtakbfapnhjkgoaaGreatDoorZg
import Derived.Test.YtakbfapnhjkgoaaGreatDoorZh
import Derived.Test.YtakbfapnhjkgoaaGreatDoorZi
import Derived.Test.YtakbfapnhjkgoaaGreatDoorZj
section
namespace Go.Proofs.Tryz.Kn
open Go Go.CE Go.RowKit
theorem znt:∀n∈pows,xb [zbc n,ofS n]=true:=by
 intro n h;simp only[pows,Yzw,Yzt,or_false]at h;rcases h with rfl|rfl|rfl|rfl|rfl|rfl|rfl|rfl|rfl|rfl|rfl|rfl|rfl|rfl|rfl|rfl|rfl|rfl|rfl|rfl|rfl|rfl|rfl|rfl
 ·exact kp2
 ·exact kp4
 ·exact kp6
 ·exact kp8
 ·exact zCB
 ·exact zCA
 ·exact zCz
 ·exact zCy
 ·exact zCx
 ·exact zCw
 ·exact zCv
 ·exact zCu
 ·exact zCt
 ·exact zCs
 ·exact zCr
 ·exact zCq
 ·exact zCp
 ·exact zCo
 ·exact zz9
 ·exact zz8
 ·exact zz7
 ·exact zz6
 ·exact zz5
 ·exact zz4
theorem ztI:∀x∈dens,xb (xF x)=true:=by
 intro x h;simp only[dens,Yzw,Yzt,or_false]at h;rcases h with rfl|rfl|rfl|rfl|rfl|rfl|rfl|rfl|rfl|rfl|rfl|rfl|rfl|rfl|rfl|rfl|rfl|rfl|rfl|rfl|rfl
 ·exact km2
 ·exact km4
 ·exact km6
 ·exact km8
 ·exact zCP
 ·exact zCO
 ·exact zCN
 ·exact zCM
 ·exact zCL
 ·exact zCK
 ·exact zCJ
 ·exact zCI
 ·exact zCH
 ·exact zCG
 ·exact zCF
 ·exact zCE
 ·exact zCD
 ·exact zCC
 ·exact zAc
 ·exact zAb
 ·exact zAa
theorem zuN:∀x∈prs,xb (yx x)=true:=by
 intro x h;simp only[prs,Yzw,Yzt,or_false]at h;rcases h with rfl|rfl|rfl|rfl|rfl|rfl|rfl|rfl|rfl|rfl|rfl|rfl|rfl|rfl|rfl|rfl|rfl|rfl|rfl|rfl|rfl|rfl|rfl|rfl|rfl|rfl|rfl|rfl|rfl|rfl|rfl|rfl|rfl|rfl|rfl|rfl|rfl|rfl|rfl|rfl
 ·exact zAg
 ·exact zAf
 ·exact zAe
 ·exact zAd
 ·exact zwM
 ·exact zwL
 ·exact zui
 ·exact zuh
 ·exact zug
 ·exact zuf
 ·exact zue
 ·exact zud
 ·exact zuc
 ·exact zub
 ·exact zua
 ·exact zt9
 ·exact zt8
 ·exact zt7
 ·exact zt6
 ·exact zt5
 ·exact zt4
 ·exact zt3
 ·exact zt2
 ·exact zt1
 ·exact zt0
 ·exact ztZ
 ·exact ztY
 ·exact ztX
 ·exact ztW
 ·exact ztV
 ·exact ztU
 ·exact ztT
 ·exact ztS
 ·exact ztR
 ·exact zrg
 ·exact zoy
 ·exact zrf
 ·exact zox
 ·exact zow
 ·exact zov
def shSums:List Sum:=pows.map zbc++pows.map ofS++dens.flatMap xF++prs.flatMap yx
theorem zm2:∀s∈shSums,za4 Tryz.prog s:=by
 intro s hs;rcases List.mem_append.1 hs with hs|hs
 ·rcases List.mem_append.1 hs with hs|hs
  ·rcases List.mem_append.1 hs with hs|hs
   ·obtain⟨n,hn,rfl⟩:=List.mem_map.1 hs;exact zf8 (znt n hn) _ (Yzg ..)
   ·obtain⟨n,hn,rfl⟩:=List.mem_map.1 hs;exact zf8 (znt n hn) _ (Yze _ (Yzg ..))
  ·obtain⟨x,hx,h⟩:=List.mem_flatMap.1 hs;exact zf8 (ztI x hx) _ h
 ·obtain⟨x,hx,h⟩:=List.mem_flatMap.1 hs;exact zf8 (zuN x hx) _ h
end Go.Proofs.Tryz.Kn
end
