/- A part of the proof that the law returns true for every input that its row speaks of. No condition is added. -/
import Derived.Test.YthnjglgannbccaaGreatDoorSwAF
import Derived.KernelRfl
namespace Sw
noncomputable section
open Go Go.Proofs
theorem hStarters3 : holdsT 12 e2 89 1000000 50 tmStarters3 = true := by kernel_rfl
end
end Sw
