/- A part of the proof that the law returns true for every input that its row speaks of. No condition is added. -/
import Derived.Test.YtginbleelmnlpaaGreatDoorRows
import Derived.Test.YtginbleelmnlpaaGreatDoorCards
import Derived.JoinedOf
namespace Sw
noncomputable section
open Go Go.Proofs Go.Proofs.YtginbleelmnlpaaGreatDoor
set_option maxRecDepth 100000
theorem jk_inPlace : (Rows.fieldKeysRow.inPlace == Tryz.prog.inPlace 3) = true := by kernel_rfl
end
end Sw
