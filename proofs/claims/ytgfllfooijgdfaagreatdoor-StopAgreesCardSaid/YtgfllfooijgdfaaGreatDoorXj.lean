/-
  Lemmas. No condition.
-/
import Derived.Test.YtgfllfooijgdfaaGreatDoorXf
import Derived.Test.YtgfllfooijgdfaaGreatDoorXg
import Derived.Test.YtgfllfooijgdfaaGreatDoorXh
import Derived.Test.YtgfllfooijgdfaaGreatDoorXi
section
namespace Go.Proofs.Tryz.Kn
open Go Go.CE Go.RowKit
theorem zjT:∀n∈pows,zL [vZ n,ofS n]=true:=by
 intro n h;simp only[pows,YzL,YzK,or_false]at h;rcases h with rfl|rfl|rfl|rfl|rfl|rfl|rfl|rfl|rfl|rfl|rfl|rfl|rfl|rfl|rfl|rfl|rfl|rfl|rfl|rfl|rfl|rfl|rfl|rfl|rfl|rfl|rfl|rfl|rfl|rfl|rfl|rfl|rfl|rfl
 ·exact kp1
 ·exact kp2
 ·exact kp3
 ·exact kp4
 ·exact kp5
 ·exact kp6
 ·exact kp7
 ·exact kp8
 ·exact zwv
 ·exact zwu
 ·exact zwt
 ·exact zws
 ·exact zwr
 ·exact zwq
 ·exact zwp
 ·exact zwo
 ·exact zwn
 ·exact zwm
 ·exact zwl
 ·exact zwk
 ·exact zwj
 ·exact zwi
 ·exact zuJ
 ·exact zuI
 ·exact zuH
 ·exact zuG
 ·exact zuF
 ·exact zuE
 ·exact zuD
 ·exact zuC
 ·exact zuB
 ·exact zuA
 ·exact zuz
 ·exact zuy
theorem zpP:∀x∈dens,zL (yb x)=true:=by
 intro x h;simp only[dens,YzL,YzK,or_false]at h;rcases h with rfl|rfl|rfl|rfl|rfl|rfl|rfl|rfl|rfl|rfl|rfl|rfl|rfl|rfl|rfl|rfl|rfl|rfl|rfl|rfl|rfl|rfl|rfl|rfl|rfl|rfl|rfl|rfl|rfl|rfl|rfl
 ·exact km1
 ·exact km2
 ·exact km3
 ·exact km4
 ·exact km5
 ·exact km6
 ·exact km7
 ·exact km8
 ·exact zwJ
 ·exact zwI
 ·exact zwH
 ·exact zwG
 ·exact zwF
 ·exact zwE
 ·exact zwD
 ·exact zwC
 ·exact zwB
 ·exact zwA
 ·exact zwz
 ·exact zwy
 ·exact zwx
 ·exact zww
 ·exact zuS
 ·exact zuR
 ·exact zuQ
 ·exact zuP
 ·exact zuO
 ·exact zuN
 ·exact zuM
 ·exact zuL
 ·exact zuK
theorem zqY:∀x∈prs,zL (zm x)=true:=by
 intro x h;simp only[prs,YzL,YzK,or_false]at h;rcases h with rfl|rfl|rfl|rfl|rfl|rfl|rfl|rfl|rfl|rfl|rfl|rfl|rfl|rfl|rfl|rfl|rfl|rfl|rfl|rfl|rfl|rfl|rfl|rfl|rfl|rfl|rfl|rfl|rfl|rfl|rfl|rfl|rfl|rfl|rfl|rfl|rfl|rfl|rfl|rfl|rfl|rfl|rfl|rfl|rfl|rfl|rfl|rfl|rfl|rfl|rfl|rfl|rfl|rfl|rfl|rfl|rfl|rfl|rfl|rfl|rfl|rfl|rfl|rfl|rfl|rfl|rfl|rfl|rfl|rfl|rfl|rfl|rfl|rfl|rfl|rfl|rfl|rfl|rfl|rfl|rfl|rfl|rfl|rfl|rfl|rfl|rfl|rfl|rfl|rfl|rfl|rfl|rfl|rfl|rfl
 ·exact zu4
 ·exact zu3
 ·exact zu2
 ·exact zu1
 ·exact zu0
 ·exact zuZ
 ·exact zuY
 ·exact zuX
 ·exact zuW
 ·exact zuV
 ·exact zuU
 ·exact zuT
 ·exact zsM
 ·exact zsL
 ·exact zqB
 ·exact zqA
 ·exact zsK
 ·exact zqz
 ·exact zqy
 ·exact zqx
 ·exact zqw
 ·exact zqv
 ·exact zqu
 ·exact zqt
 ·exact zqs
 ·exact zqr
 ·exact zqq
 ·exact zqp
 ·exact zqo
 ·exact zqn
 ·exact zqm
 ·exact zql
 ·exact zqk
 ·exact zqj
 ·exact zqi
 ·exact zqh
 ·exact zqg
 ·exact zqf
 ·exact zqe
 ·exact zqd
 ·exact zqc
 ·exact zqb
 ·exact zqa
 ·exact zp9
 ·exact zp8
 ·exact zp7
 ·exact zp6
 ·exact zp5
 ·exact zp4
 ·exact zp3
 ·exact zp2
 ·exact zp1
 ·exact zp0
 ·exact zpZ
 ·exact zpY
 ·exact zpX
 ·exact zpW
 ·exact zpV
 ·exact znF
 ·exact znE
 ·exact znD
 ·exact zlh
 ·exact znC
 ·exact znB
 ·exact zlg
 ·exact zlf
 ·exact znA
 ·exact zle
 ·exact zld
 ·exact zlc
 ·exact zlb
 ·exact zla
 ·exact zk9
 ·exact zk8
 ·exact zk7
 ·exact zk6
 ·exact zk5
 ·exact zk4
 ·exact zk3
 ·exact zk2
 ·exact zk1
 ·exact zk0
 ·exact zkZ
 ·exact zkY
 ·exact zkX
 ·exact zkW
 ·exact zkV
 ·exact zkU
 ·exact zkT
 ·exact zkS
 ·exact zkR
 ·exact zkQ
 ·exact zkP
 ·exact zkO
 ·exact zkN
def ve:List Sum:=pows.map vZ++pows.map ofS++dens.flatMap yb++prs.flatMap zm
theorem zjs:∀s∈ve,kH Tryz.prog s:=by
 intro s hs;rcases List.mem_append.1 hs with hs|hs
 ·rcases List.mem_append.1 hs with hs|hs
  ·rcases List.mem_append.1 hs with hs|hs
   ·obtain⟨n,hn,rfl⟩:=List.mem_map.1 hs;exact zdt (zjT n hn) _ (Yzj ..)
   ·obtain⟨n,hn,rfl⟩:=List.mem_map.1 hs;exact zdt (zjT n hn) _ (Yzi _ (Yzj ..))
  ·obtain⟨x,hx,h⟩:=List.mem_flatMap.1 hs;exact zdt (zpP x hx) _ h
 ·obtain⟨x,hx,h⟩:=List.mem_flatMap.1 hs;exact zdt (zqY x hx) _ h
end Go.Proofs.Tryz.Kn
end
