/- A part of the proof that the law returns true for every input that its row speaks of. No condition is added. -/
import Derived.Test.YtcocjehgbbmpgaaGreatDoorRows
import Derived.Test.YtcocjehgbbmpgaaGreatDoorCards
import Derived.JoinedOf
namespace Sw
noncomputable section
open Go Go.Proofs Go.Proofs.YtcocjehgbbmpgaaGreatDoor
set_option maxRecDepth 100000
theorem jr_named : (Rows.relayRankRow.named == Tryz.prog.varsNamed 3) = true := by kernel_rfl
end
end Sw
