/-
  Lemmas: She. No condition.
-/
import Derived.Test.YthfdnggfegbbkaaGreatDoorUg
import Derived.Test.YthfdnggfegbbkaaGreatDoorUh
import Derived.Test.YthfdnggfegbbkaaGreatDoorUi
import Derived.Test.YthfdnggfegbbkaaGreatDoorUj
section
namespace Go.Proofs.Tryz.Kn
open Go Go.CE Go.RowKit
theorem zjv : ∀ n ∈ pows, chks [powS n, ofS n] = true := by
 intro n h;simp only [pows, List.mem_cons, List.not_mem_nil, or_false] at h;rcases h with rfl | rfl | rfl | rfl | rfl | rfl | rfl | rfl | rfl | rfl | rfl | rfl | rfl | rfl | rfl | rfl | rfl | rfl | rfl | rfl | rfl | rfl | rfl | rfl
 ·exact kp2
 ·exact kp4
 ·exact kp6
 ·exact kp8
 ·exact kp10
 ·exact kp12
 ·exact kp14
 ·exact kp16
 ·exact kp20
 ·exact kp24
 ·exact kp28
 ·exact kp32
 ·exact kp40
 ·exact kp48
 ·exact kp56
 ·exact kp64
 ·exact kp80
 ·exact kp96
 ·exact ztf
 ·exact zte
 ·exact ztd
 ·exact ztc
 ·exact ztb
 ·exact zta
theorem zoY : ∀ x ∈ dens, chks (y6 x) = true := by
 intro x h;simp only [dens, List.mem_cons, List.not_mem_nil, or_false] at h;rcases h with rfl | rfl | rfl | rfl | rfl | rfl | rfl | rfl | rfl | rfl | rfl | rfl | rfl | rfl | rfl | rfl | rfl | rfl | rfl | rfl | rfl
 ·exact km2
 ·exact km4
 ·exact km6
 ·exact km8
 ·exact km10
 ·exact km12
 ·exact km14
 ·exact km16
 ·exact km20
 ·exact km24
 ·exact km28
 ·exact km32
 ·exact km40
 ·exact km48
 ·exact km56
 ·exact km64
 ·exact km80
 ·exact km96
 ·exact zti
 ·exact zth
 ·exact ztg
theorem zpV : ∀ x ∈ prs, chks (yd x) = true := by
 intro x h;simp only [prs, List.mem_cons, List.not_mem_nil, or_false] at h;rcases h with rfl | rfl | rfl | rfl | rfl | rfl | rfl | rfl | rfl | rfl | rfl | rfl | rfl | rfl | rfl | rfl | rfl | rfl | rfl | rfl | rfl | rfl | rfl | rfl | rfl | rfl | rfl | rfl | rfl | rfl | rfl | rfl | rfl | rfl | rfl | rfl | rfl | rfl | rfl | rfl
 ·exact ztm
 ·exact ztl
 ·exact ztk
 ·exact ztj
 ·exact zq9
 ·exact zq8
 ·exact zpx
 ·exact zpw
 ·exact zpv
 ·exact zpu
 ·exact zpt
 ·exact zps
 ·exact zpr
 ·exact zpq
 ·exact zpp
 ·exact zpo
 ·exact zpn
 ·exact zpm
 ·exact zpl
 ·exact zpk
 ·exact zpj
 ·exact zpi
 ·exact zph
 ·exact zpg
 ·exact zpf
 ·exact zpe
 ·exact zpd
 ·exact zpc
 ·exact zpb
 ·exact zpa
 ·exact zo9
 ·exact zo8
 ·exact zo7
 ·exact zo6
 ·exact zmB
 ·exact zkr
 ·exact zmA
 ·exact zkq
 ·exact zkp
 ·exact zko
def shSums : List Sum := pows.map powS ++ pows.map ofS ++ dens.flatMap y6 ++ prs.flatMap yd
theorem zi6 : ∀ s ∈ shSums, qr Tryz.prog s := by
 intro s hs;rcases List.mem_append.1 hs with hs | hs
 ·rcases List.mem_append.1 hs with hs | hs
  ·rcases List.mem_append.1 hs with hs | hs
   ·obtain ⟨n, hn, rfl⟩ := List.mem_map.1 hs;exact zdu (zjv n hn) _ (List.mem_cons_self ..)
   ·obtain ⟨n, hn, rfl⟩ := List.mem_map.1 hs;exact zdu (zjv n hn) _ (List.mem_cons_of_mem _ (List.mem_cons_self ..))
  ·obtain ⟨x, hx, h⟩ := List.mem_flatMap.1 hs;exact zdu (zoY x hx) _ h
 ·obtain ⟨x, hx, h⟩ := List.mem_flatMap.1 hs;exact zdu (zpV x hx) _ h
end Go.Proofs.Tryz.Kn
end
