/- A part of the proof that the law returns true for every input that its row speaks of. No condition is added. -/
import Derived.Test.YtecbgehgkpgbmaaGreatDoorSwAG
import Derived.KernelRfl
namespace Sw
noncomputable section
open Go Go.Proofs
theorem VK:zL 12 e1 52 1000000 5 KT=true:=by kernel_rfl
end
end Sw
