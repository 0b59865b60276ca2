/- A part of the proof that the law returns true for every input that its row speaks of. No condition is added. -/
import Derived.Test.YtecbgehgkpgbmaaGreatDoorSwAG
import Derived.KernelRfl
namespace Sw
noncomputable section
open Go Go.Proofs
theorem ZC:zL 12 e3 5 1000000 5 Sq=true:=by kernel_rfl
end
end Sw
