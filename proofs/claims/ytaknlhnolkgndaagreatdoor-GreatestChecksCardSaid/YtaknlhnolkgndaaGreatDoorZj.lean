/-
  Lemmas. No condition.
-/
import Derived.Test.YtaknlhnolkgndaaGreatDoorZf
import Derived.Test.YtaknlhnolkgndaaGreatDoorZg
import Derived.Test.YtaknlhnolkgndaaGreatDoorZh
import Derived.Test.YtaknlhnolkgndaaGreatDoorZi
section
namespace Go.Proofs.Tryz.Kn
open Go Go.CE Go.RowKit
theorem zlR:∀n∈pows,yS [zac n,ofS n]=true:=by
 intro n h;simp only[pows,Yzv,Yzp,or_false]at h;rcases h with rfl|rfl|rfl|rfl|rfl|rfl|rfl|rfl|rfl|rfl|rfl|rfl|rfl|rfl|rfl|rfl|rfl|rfl|rfl|rfl|rfl|rfl|rfl|rfl
 .exact kp2
 .exact kp4
 .exact kp6
 .exact kp8
 .exact zzo
 .exact zzn
 .exact zzm
 .exact zzl
 .exact zzk
 .exact zzj
 .exact zzi
 .exact zzh
 .exact zzg
 .exact zzf
 .exact zze
 .exact zzd
 .exact zzc
 .exact zzb
 .exact zxh
 .exact zxg
 .exact zxf
 .exact zxe
 .exact zxd
 .exact zxc
theorem zrG:∀x∈dens,yS (xg x)=true:=by
 intro x h;simp only[dens,Yzv,Yzp,or_false]at h;rcases h with rfl|rfl|rfl|rfl|rfl|rfl|rfl|rfl|rfl|rfl|rfl|rfl|rfl|rfl|rfl|rfl|rfl|rfl|rfl|rfl|rfl
 .exact km2
 .exact km4
 .exact km6
 .exact km8
 .exact zzC
 .exact zzB
 .exact zzA
 .exact zzz
 .exact zzy
 .exact zzx
 .exact zzw
 .exact zzv
 .exact zzu
 .exact zzt
 .exact zzs
 .exact zzr
 .exact zzq
 .exact zzp
 .exact zxk
 .exact zxj
 .exact zxi
theorem zsR:∀x∈prs,yS (yj x)=true:=by
 intro x h;simp only[prs,Yzv,Yzp,or_false]at h;rcases h with rfl|rfl|rfl|rfl|rfl|rfl|rfl|rfl|rfl|rfl|rfl|rfl|rfl|rfl|rfl|rfl|rfl|rfl|rfl|rfl|rfl|rfl|rfl|rfl|rfl|rfl|rfl|rfl|rfl|rfl|rfl|rfl|rfl|rfl|rfl|rfl|rfl|rfl|rfl|rfl
 .exact zxo
 .exact zxn
 .exact zxm
 .exact zxl
 .exact zuO
 .exact zuN
 .exact zsk
 .exact zsj
 .exact zsi
 .exact zsh
 .exact zsg
 .exact zsf
 .exact zse
 .exact zsd
 .exact zsc
 .exact zsb
 .exact zsa
 .exact zr9
 .exact zr8
 .exact zr7
 .exact zr6
 .exact zr5
 .exact zr4
 .exact zr3
 .exact zr2
 .exact zr1
 .exact zr0
 .exact zrZ
 .exact zrY
 .exact zrX
 .exact zrW
 .exact zrV
 .exact zrU
 .exact zrT
 .exact zpo
 .exact zmN
 .exact zpn
 .exact zmM
 .exact zmL
 .exact zmK
def shSums:List Sum:=pows.map zac++pows.map ofS++dens.flatMap xg++prs.flatMap yj
theorem zlp:∀s∈shSums,ke Tryz.prog s:=by
 intro s hs;rcases List.mem_append.1 hs with hs|hs
 .rcases List.mem_append.1 hs with hs|hs
  .rcases List.mem_append.1 hs with hs|hs
   .obtain⟨n,hn,rfl⟩:=List.mem_map.1 hs;exact zeW (zlR n hn) _ (Yzk ..)
   .obtain⟨n,hn,rfl⟩:=List.mem_map.1 hs;exact zeW (zlR n hn) _ (Yzi _ (Yzk ..))
  .obtain⟨x,hx,h⟩:=List.mem_flatMap.1 hs;exact zeW (zrG x hx) _ h
 .obtain⟨x,hx,h⟩:=List.mem_flatMap.1 hs;exact zeW (zsR x hx) _ h
end Go.Proofs.Tryz.Kn
end
