/- A part of the proof that the law returns true for every input that its row speaks of. No condition is added. -/
import Derived.Test.YtecbgehgkpgbmaaGreatDoorSwAG
import Derived.KernelRfl
namespace Sw
noncomputable section
open Go Go.Proofs
theorem Ry:zL 12 e2 44 1000000 50 GQ=true:=by kernel_rfl
end
end Sw
