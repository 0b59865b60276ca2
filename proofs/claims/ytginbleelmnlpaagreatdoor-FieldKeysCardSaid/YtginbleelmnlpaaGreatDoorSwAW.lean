/- A part of the proof that the law returns true for every input that its row speaks of. No condition is added. -/
import Derived.Test.YtginbleelmnlpaaGreatDoorSwAF
import Derived.KernelRfl
namespace Sw
noncomputable section
open Go Go.Proofs
theorem hSane : holdsT 12 e4 4 1000000 5 tmSane = true := by kernel_rfl
end
end Sw
