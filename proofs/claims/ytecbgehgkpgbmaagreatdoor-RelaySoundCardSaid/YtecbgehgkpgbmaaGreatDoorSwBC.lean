/- A part of the proof that the law returns true for every input that its row speaks of. No condition is added. -/
import Derived.Test.YtecbgehgkpgbmaaGreatDoorRows
import Derived.Test.YtecbgehgkpgbmaaGreatDoorCards
import Derived.JoinedOf
namespace Sw
noncomputable section
open Go Go.Proofs Go.Proofs.YtecbgehgkpgbmaaGreatDoor
set_option maxRecDepth 100000
theorem Pj:(Rows.relaySoundRow.recurses==Tryz.prog.recurses 4)=true:=by kernel_rfl
end
end Sw
