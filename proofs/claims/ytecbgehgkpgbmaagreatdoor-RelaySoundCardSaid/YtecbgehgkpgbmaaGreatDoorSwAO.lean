/- A part of the proof that the law returns true for every input that its row speaks of. No condition is added. -/
import Derived.Test.YtecbgehgkpgbmaaGreatDoorSwAG
import Derived.KernelRfl
namespace Sw
noncomputable section
open Go Go.Proofs
theorem TQ:zL 12 e0 415 1000000 5 AW=true:=by kernel_rfl
end
end Sw
