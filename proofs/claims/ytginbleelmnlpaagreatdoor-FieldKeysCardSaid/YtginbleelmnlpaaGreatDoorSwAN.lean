/- A part of the proof that the law returns true for every input that its row speaks of. No condition is added. -/
import Derived.Test.YtginbleelmnlpaaGreatDoorSwAF
import Derived.KernelRfl
namespace Sw
noncomputable section
open Go Go.Proofs
theorem hStarters0 : holdsT 12 e2 64 1000000 50 tmStarters0 = true := by kernel_rfl
end
end Sw
