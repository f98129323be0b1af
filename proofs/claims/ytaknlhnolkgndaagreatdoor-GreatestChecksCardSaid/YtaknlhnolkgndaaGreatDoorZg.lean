/-
  Lemmas. No condition.
-/
import Derived.Test.YtaknlhnolkgndaaGreatDoorZe
section
namespace Go.Proofs.Tryz.Kn
open Go Go.CE Go.RowKit
theorem km2:yS (xg (2,0))=true:=by kernel_rfl
theorem km4:yS (xg (4,0))=true:=by kernel_rfl
theorem km6:yS (xg (6,5))=true:=by kernel_rfl
theorem km8:yS (xg (8,7))=true:=by kernel_rfl
theorem zzC:yS (xg (10,8))=true:=by kernel_rfl
theorem zzB:yS (xg (12,5))=true:=by kernel_rfl
theorem zzA:yS (xg (14,2))=true:=by kernel_rfl
theorem zzz:yS (xg (16,7))=true:=by kernel_rfl
theorem zzy:yS (xg (20,8))=true:=by kernel_rfl
theorem zzx:yS (xg (24,9))=true:=by kernel_rfl
theorem zzw:yS (xg (28,2))=true:=by kernel_rfl
end Go.Proofs.Tryz.Kn
end
