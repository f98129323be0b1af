/-
  Lemmas. No condition.
-/
import Derived.Test.YtkgdjnaidkhniaaGreatDoorZf
import Derived.Test.YtkgdjnaidkhniaaGreatDoorZg
import Derived.Test.YtkgdjnaidkhniaaGreatDoorZh
import Derived.Test.YtkgdjnaidkhniaaGreatDoorZi
section
namespace Go.Proofs.Tryz.Kn
open Go Go.CE Go.RowKit
theorem zqX:∀n∈pows,xi [zdy n,ofS n]=true:=by
 intro n h;simp only[pows,Yya,Yyc,or_false]at h;rcases h with rfl|rfl|rfl|rfl|rfl|rfl|rfl|rfl|rfl|rfl|rfl|rfl|rfl|rfl|rfl|rfl|rfl|rfl|rfl|rfl|rfl|rfl|rfl|rfl
 .exact kp2
 .exact kp4
 .exact kp6
 .exact kp8
 .exact zGU
 .exact zGT
 .exact zGS
 .exact zGR
 .exact zGQ
 .exact zGP
 .exact zGO
 .exact zGN
 .exact zGM
 .exact zGL
 .exact zGK
 .exact zGJ
 .exact zGI
 .exact zGH
 .exact zDY
 .exact zDX
 .exact zDW
 .exact zDV
 .exact zDU
 .exact zDT
theorem zxC:∀x∈dens,xi (xP x)=true:=by
 intro x h;simp only[dens,Yya,Yyc,or_false]at h;rcases h with rfl|rfl|rfl|rfl|rfl|rfl|rfl|rfl|rfl|rfl|rfl|rfl|rfl|rfl|rfl|rfl|rfl|rfl|rfl|rfl|rfl
 .exact km2
 .exact km4
 .exact km6
 .exact km8
 .exact zG8
 .exact zG7
 .exact zG6
 .exact zG5
 .exact zG4
 .exact zG3
 .exact zG2
 .exact zG1
 .exact zG0
 .exact zGZ
 .exact zGY
 .exact zGX
 .exact zGW
 .exact zGV
 .exact zD1
 .exact zD0
 .exact zDZ
theorem zyN:∀x∈prs,xi (yC x)=true:=by
 intro x h;simp only[prs,Yya,Yyc,or_false]at h;rcases h with rfl|rfl|rfl|rfl|rfl|rfl|rfl|rfl|rfl|rfl|rfl|rfl|rfl|rfl|rfl|rfl|rfl|rfl|rfl|rfl|rfl|rfl|rfl|rfl|rfl|rfl|rfl|rfl|rfl|rfl|rfl|rfl|rfl|rfl|rfl|rfl|rfl|rfl|rfl|rfl
 .exact zD5
 .exact zD4
 .exact zD3
 .exact zD2
 .exact zBa
 .exact zA9
 .exact zye
 .exact zyd
 .exact zyc
 .exact zyb
 .exact zya
 .exact zx9
 .exact zx8
 .exact zx7
 .exact zx6
 .exact zx5
 .exact zx4
 .exact zx3
 .exact zx2
 .exact zx1
 .exact zx0
 .exact zxZ
 .exact zxY
 .exact zxX
 .exact zxW
 .exact zxV
 .exact zxU
 .exact zxT
 .exact zxS
 .exact zxR
 .exact zxQ
 .exact zxP
 .exact zxO
 .exact zxN
 .exact zuW
 .exact zr6
 .exact zuV
 .exact zr5
 .exact zr4
 .exact zr3
def shSums:List Sum:=pows.map zdy++pows.map ofS++dens.flatMap xP++prs.flatMap yC
theorem zqr:∀s∈shSums,zd9 Tryz.prog s:=by
 intro s hs;rcases List.mem_append.1 hs with hs|hs
 .rcases List.mem_append.1 hs with hs|hs
  .rcases List.mem_append.1 hs with hs|hs
   .obtain⟨n,hn,rfl⟩:=List.mem_map.1 hs;exact zjb (zqX n hn) _ (Yzf ..)
   .obtain⟨n,hn,rfl⟩:=List.mem_map.1 hs;exact zjb (zqX n hn) _ (Yze _ (Yzf ..))
  .obtain⟨x,hx,h⟩:=List.mem_flatMap.1 hs;exact zjb (zxC x hx) _ h
 .obtain⟨x,hx,h⟩:=List.mem_flatMap.1 hs;exact zjb (zyN x hx) _ h
end Go.Proofs.Tryz.Kn
end
