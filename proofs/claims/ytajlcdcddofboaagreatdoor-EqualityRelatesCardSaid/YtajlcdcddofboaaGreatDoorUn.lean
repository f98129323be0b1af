/-
  Lemmas. No condition.
-/
import Derived.Test.YtajlcdcddofboaaGreatDoorUg
import Derived.Test.YtajlcdcddofboaaGreatDoorUh
import Derived.Test.YtajlcdcddofboaaGreatDoorUi
import Derived.Test.YtajlcdcddofboaaGreatDoorUj
section
namespace Go.Proofs.Tryz.Kn
open Go Go.CE Go.RowKit
theorem zl7:∀n∈pows,zwQ [zw9 n,ofS n]=true:=by
 intro n h;simp only[pows,YzO,YzK,or_false]at h;rcases h with rfl|rfl|rfl|rfl|rfl|rfl|rfl|rfl|rfl|rfl|rfl|rfl|rfl|rfl|rfl|rfl|rfl|rfl|rfl|rfl|rfl|rfl|rfl|rfl
 ·exact kp2
 ·exact kp4
 ·exact kp6
 ·exact kp8
 ·exact zBQ
 ·exact zBP
 ·exact zBO
 ·exact zBN
 ·exact zBM
 ·exact zBL
 ·exact zBK
 ·exact zBJ
 ·exact zBI
 ·exact zBH
 ·exact zBG
 ·exact zBF
 ·exact zBE
 ·exact zBD
 ·exact zv6
 ·exact zv5
 ·exact zv4
 ·exact zv3
 ·exact zv2
 ·exact zv1
theorem zrT:∀x∈dens,zwQ (xw x)=true:=by
 intro x h;simp only[dens,YzO,YzK,or_false]at h;rcases h with rfl|rfl|rfl|rfl|rfl|rfl|rfl|rfl|rfl|rfl|rfl|rfl|rfl|rfl|rfl|rfl|rfl|rfl|rfl|rfl|rfl
 ·exact km2
 ·exact km4
 ·exact km6
 ·exact km8
 ·exact zB4
 ·exact zB3
 ·exact zB2
 ·exact zB1
 ·exact zB0
 ·exact zBZ
 ·exact zBY
 ·exact zBX
 ·exact zBW
 ·exact zBV
 ·exact zBU
 ·exact zBT
 ·exact zBS
 ·exact zBR
 ·exact zv9
 ·exact zv8
 ·exact zv7
theorem zsU:∀x∈prs,zwQ (yw x)=true:=by
 intro x h;simp only[prs,YzO,YzK,or_false]at h;rcases h with rfl|rfl|rfl|rfl|rfl|rfl|rfl|rfl|rfl|rfl|rfl|rfl|rfl|rfl|rfl|rfl|rfl|rfl|rfl|rfl|rfl|rfl|rfl|rfl|rfl|rfl|rfl|rfl|rfl|rfl|rfl|rfl|rfl|rfl|rfl|rfl|rfl|rfl|rfl|rfl
 ·exact zwd
 ·exact zwc
 ·exact zwb
 ·exact zwa
 ·exact zuj
 ·exact zui
 ·exact zss
 ·exact zsr
 ·exact zsq
 ·exact zsp
 ·exact zso
 ·exact zsn
 ·exact zsm
 ·exact zsl
 ·exact zsk
 ·exact zsj
 ·exact zsi
 ·exact zsh
 ·exact zsg
 ·exact zsf
 ·exact zse
 ·exact zsd
 ·exact zsc
 ·exact zsb
 ·exact zsa
 ·exact zr9
 ·exact zr8
 ·exact zr7
 ·exact zr6
 ·exact zr5
 ·exact zr4
 ·exact zr3
 ·exact zr2
 ·exact zr1
 ·exact zpC
 ·exact zna
 ·exact zpB
 ·exact zm9
 ·exact zm8
 ·exact zm7
def shSums:List Sum:=pows.map zw9++pows.map ofS++dens.flatMap xw++prs.flatMap yw
theorem zlE:∀s∈shSums,u6 Tryz.prog s:=by
 intro s hs;rcases Yys.1 hs with hs|hs
 ·rcases Yys.1 hs with hs|hs
  ·rcases Yys.1 hs with hs|hs
   ·obtain⟨n,hn,rfl⟩:=List.mem_map.1 hs;exact ze8 (zl7 n hn) _ (Yzi ..)
   ·obtain⟨n,hn,rfl⟩:=List.mem_map.1 hs;exact ze8 (zl7 n hn) _ (Yzf _ (Yzi ..))
  ·obtain⟨x,hx,h⟩:=List.mem_flatMap.1 hs;exact ze8 (zrT x hx) _ h
 ·obtain⟨x,hx,h⟩:=List.mem_flatMap.1 hs;exact ze8 (zsU x hx) _ h
end Go.Proofs.Tryz.Kn
end
