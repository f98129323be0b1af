/-
  Lemmas. No condition.
-/
import Derived.Test.YtaknlhnolkgndaaGreatDoorZe
section
namespace Go.Proofs.Tryz.Kn
open Go Go.CE Go.RowKit
theorem zzv:yS (xg (32,7))=true:=by kernel_rfl
theorem zzu:yS (xg (40,8))=true:=by kernel_rfl
theorem zzt:yS (xg (48,9))=true:=by kernel_rfl
theorem zzs:yS (xg (56,9))=true:=by kernel_rfl
theorem zzr:yS (xg (64,7))=true:=by kernel_rfl
theorem zzq:yS (xg (80,8))=true:=by kernel_rfl
theorem zzp:yS (xg (96,9))=true:=by kernel_rfl
theorem zxk:yS (xg (112,2))=true:=by kernel_rfl
theorem zxj:yS (xg (128,7))=true:=by kernel_rfl
theorem zxi:yS (xg (256,4))=true:=by kernel_rfl
end Go.Proofs.Tryz.Kn
end
