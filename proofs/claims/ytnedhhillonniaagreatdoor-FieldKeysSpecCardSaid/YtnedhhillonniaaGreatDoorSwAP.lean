/- A part of the proof that the law returns true for every input that its row speaks of. No condition is added. -/
import Derived.Test.YtnedhhillonniaaGreatDoorRows
import Derived.Test.YtnedhhillonniaaGreatDoorCards
import Derived.JoinedOf
/- Closed facts of the row of FieldKeysSpec. -/
namespace Sw
noncomputable section
open Go Go.Proofs Go.Proofs.YtnedhhillonniaaGreatDoor
set_option maxRecDepth 100000
theorem j_recurses : (Rows.fieldKeysSpecRow.recurses == Tryz.prog.recurses 3) = true := by kernel_rfl
end
end Sw
