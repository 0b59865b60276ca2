/- A part of the proof that the law returns true for every input that its row speaks of. No condition is added. -/
import Derived.Test.YtginbleelmnlpaaGreatDoorSwAF
import Derived.KernelRfl
namespace Sw
noncomputable section
open Go Go.Proofs
theorem hCourse0 : holdsT 12 e1 25 1000000 5 tmCourse0 = true := by kernel_rfl
end
end Sw
