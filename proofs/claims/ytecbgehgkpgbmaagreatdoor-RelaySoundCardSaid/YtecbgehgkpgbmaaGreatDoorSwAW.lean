/- A part of the proof that the law returns true for every input that its row speaks of. No condition is added. -/
import Derived.Test.YtecbgehgkpgbmaaGreatDoorSwAG
import Derived.KernelRfl
namespace Sw
noncomputable section
open Go Go.Proofs
theorem aaw:(Tryz.funcs.toList.zipIdx.all fun p=>!(Nat.ble 340 p.2&&Nat.blt p.2 425)||(!(has vZ p.2)||Al 12 p.1))=true:=by kernel_rfl
end
end Sw
