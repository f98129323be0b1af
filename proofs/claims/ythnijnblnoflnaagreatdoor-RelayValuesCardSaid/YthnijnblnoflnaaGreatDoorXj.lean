/-
  Lemmas. No condition.
-/
import Derived.Test.YthnijnblnoflnaaGreatDoorXf
import Derived.Test.YthnijnblnoflnaaGreatDoorXg
import Derived.Test.YthnijnblnoflnaaGreatDoorXh
import Derived.Test.YthnijnblnoflnaaGreatDoorXi
section
namespace Go.Proofs.Tryz.Kn
open Go Go.CE Go.RowKit
theorem zlL:∀n∈pows,yT [q7 n,ofS n]=true:=by
 intro n h;simp only[pows,Yz7,Yz8,or_false]at h;rcases h with rfl|rfl|rfl|rfl|rfl|rfl|rfl|rfl|rfl|rfl|rfl|rfl|rfl|rfl|rfl|rfl|rfl|rfl|rfl|rfl|rfl|rfl|rfl|rfl
 ·exact kp2
 ·exact kp4
 ·exact kp6
 ·exact kp8
 ·exact zzl
 ·exact zzk
 ·exact zzj
 ·exact zzi
 ·exact zzh
 ·exact zzg
 ·exact zzf
 ·exact zze
 ·exact zzd
 ·exact zzc
 ·exact zzb
 ·exact zza
 ·exact zy9
 ·exact zy8
 ·exact zwW
 ·exact zwV
 ·exact zwU
 ·exact zwT
 ·exact zwS
 ·exact zwR
theorem zry:∀x∈dens,yT (xd x)=true:=by
 intro x h;simp only[dens,Yz7,Yz8,or_false]at h;rcases h with rfl|rfl|rfl|rfl|rfl|rfl|rfl|rfl|rfl|rfl|rfl|rfl|rfl|rfl|rfl|rfl|rfl|rfl|rfl|rfl|rfl
 ·exact km2
 ·exact km4
 ·exact km6
 ·exact km8
 ·exact zzz
 ·exact zzy
 ·exact zzx
 ·exact zzw
 ·exact zzv
 ·exact zzu
 ·exact zzt
 ·exact zzs
 ·exact zzr
 ·exact zzq
 ·exact zzp
 ·exact zzo
 ·exact zzn
 ·exact zzm
 ·exact zwZ
 ·exact zwY
 ·exact zwX
theorem zsA:∀x∈prs,yT (yi x)=true:=by
 intro x h;simp only[prs,Yz7,Yz8,or_false]at h;rcases h with rfl|rfl|rfl|rfl|rfl|rfl|rfl|rfl|rfl|rfl|rfl|rfl|rfl|rfl|rfl|rfl|rfl|rfl|rfl|rfl|rfl|rfl|rfl|rfl|rfl|rfl|rfl|rfl|rfl|rfl|rfl|rfl|rfl|rfl|rfl|rfl|rfl|rfl|rfl|rfl
 ·exact zw3
 ·exact zw2
 ·exact zw1
 ·exact zw0
 ·exact zut
 ·exact zus
 ·exact zr8
 ·exact zr7
 ·exact zr6
 ·exact zr5
 ·exact zr4
 ·exact zr3
 ·exact zr2
 ·exact zr1
 ·exact zr0
 ·exact zrZ
 ·exact zrY
 ·exact zrX
 ·exact zrW
 ·exact zrV
 ·exact zrU
 ·exact zrT
 ·exact zrS
 ·exact zrR
 ·exact zrQ
 ·exact zrP
 ·exact zrO
 ·exact zrN
 ·exact zrM
 ·exact zrL
 ·exact zrK
 ·exact zrJ
 ·exact zrI
 ·exact zrH
 ·exact zpf
 ·exact zmM
 ·exact zpe
 ·exact zmL
 ·exact zmK
 ·exact zmJ
def shSums:List Sum:=pows.map q7++pows.map ofS++dens.flatMap xd++prs.flatMap yi
theorem zll:∀s∈shSums,zaD Tryz.prog s:=by
 intro s hs;rcases List.mem_append.1 hs with hs|hs
 ·rcases List.mem_append.1 hs with hs|hs
  ·rcases List.mem_append.1 hs with hs|hs
   ·obtain⟨n,hn,rfl⟩:=List.mem_map.1 hs;exact zeV (zlL n hn) _ (Yzh ..)
   ·obtain⟨n,hn,rfl⟩:=List.mem_map.1 hs;exact zeV (zlL n hn) _ (Yze _ (Yzh ..))
  ·obtain⟨x,hx,h⟩:=List.mem_flatMap.1 hs;exact zeV (zry x hx) _ h
 ·obtain⟨x,hx,h⟩:=List.mem_flatMap.1 hs;exact zeV (zsA x hx) _ h
end Go.Proofs.Tryz.Kn
end
