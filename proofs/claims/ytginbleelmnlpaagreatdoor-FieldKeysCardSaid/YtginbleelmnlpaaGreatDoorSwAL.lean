/- A part of the proof that the law returns true for every input that its row speaks of. No condition is added. -/
import Derived.Test.YtginbleelmnlpaaGreatDoorSwAF
import Derived.KernelRfl
namespace Sw
noncomputable section
open Go Go.Proofs
theorem hClasses0 : holdsT 12 e0 331 1000000 5 tmClasses0 = true := by kernel_rfl
end
end Sw
