/- A part of the proof that the law returns true for every input that its row speaks of. No condition is added. -/
import Derived.Test.YtginbleelmnlpaaGreatDoorRows
import Derived.Test.YtginbleelmnlpaaGreatDoorCards
import Derived.JoinedOf
namespace Sw
noncomputable section
open Go Go.Proofs Go.Proofs.YtginbleelmnlpaaGreatDoor
set_option maxRecDepth 100000
theorem jk_wf : (Rows.fieldKeysRow.wf (OpenSpec.ofChange Rows.fieldKeysSpec)) = true := by kernel_rfl
theorem jk_laidOut : (laidOutB Tryz.prog) = true := by kernel_rfl
theorem jk_mapsRowed : (mapsRowed Tryz.prog) = true := by kernel_rfl
theorem jk_readable : (Tryz.f3.params.all (Tryz.prog.readableRec ·)) = true := by kernel_rfl
theorem jk_namedTie : (namedTie Tryz.prog Rows.fieldKeysRow.named Rows.fieldKeysSpec.vars) = true := by kernel_rfl
theorem jk_stops : ((Rows.fieldKeysRow.stops == [])) = true := by kernel_rfl
theorem jk_pstops : ((Tryz.prog.stops == [])) = true := by kernel_rfl
theorem jk_knobs : ((Rows.fieldKeysRow.knobs == [])) = true := by kernel_rfl
theorem jk_stopKnobs : ((Tryz.prog.stopKnobs == [])) = true := by kernel_rfl
theorem jk_maps : ((Rows.fieldKeysRow.maps == (Tryz.f3.params.toList ++ Rows.fieldKeysSpec.plain.varTypes Tryz.prog).any (Tryz.prog.mapsRec ·))) = true := by kernel_rfl
theorem jk_ifaces : ((Rows.fieldKeysRow.ifaces == (Tryz.f3.params.toList ++ Rows.fieldKeysSpec.plain.varTypes Tryz.prog).any (Tryz.prog.ifacesRec ·))) = true := by kernel_rfl
theorem jk_mapsOut : ((Rows.fieldKeysRow.mapsOut == Tryz.prog.mapsAmong Tryz.f3.resultTypes.toList)) = true := by kernel_rfl
theorem jk_loops : ((Rows.fieldKeysRow.loops == (Tryz.f3.params.toList ++ Rows.fieldKeysSpec.plain.varTypes Tryz.prog).any (Tryz.prog.loopsFrom ·))) = true := by kernel_rfl
theorem jk_wideKeys : ((Rows.fieldKeysRow.wideKeys == (Tryz.f3.params.toList ++ Rows.fieldKeysSpec.plain.varTypes Tryz.prog ++ Tryz.f3.resultTypes.toList).any (Tryz.prog.wideKeysFrom ·))) = true := by kernel_rfl
theorem jk_varRd : (Rows.fieldKeysSpec.vars.all (Tryz.prog.varReadable ·)) = true := by kernel_rfl
theorem jk_resRd : (Tryz.f3.resultTypes.all (fun t => Tryz.prog.readableRec t && decide (t < Tryz.prog.types.size))) = true := by kernel_rfl
theorem jk_ifacesOut : ((Rows.fieldKeysRow.ifacesOut == Tryz.f3.resultTypes.toList.any (Tryz.prog.ifacesRec ·))) = true := by kernel_rfl
theorem jk_loopsOut : ((Rows.fieldKeysRow.loopsOut == Tryz.f3.resultTypes.toList.any (Tryz.prog.loopsFrom ·))) = true := by kernel_rfl
theorem jk_plainKeys : ((Rows.fieldKeysRow.plainKeys == Tryz.prog.plainKeys)) = true := by kernel_rfl
theorem jk_shortTexts : (Rows.fieldKeysRow.shortTexts.isNone) = true := by kernel_rfl
theorem jk_stopsHeard : (Tryz.prog.stopsHeard) = true := by kernel_rfl
theorem jk_mayEnter : (Tryz.prog.mayEnter) = true := by kernel_rfl
theorem jk_lifted : ((Rows.fieldKeysRow.lifted == Tryz.prog.liftsFinal)) = true := by kernel_rfl
theorem jk_make : ((Tryz.prog.make == some Rows.fieldKeysRow.make)) = true := by kernel_rfl
theorem jk_kinds : ((Rows.fieldKeysRow.kinds == (if Rows.fieldKeysRow.domain.isEmpty then [] else Tryz.f3.params.toList.map fun t => match Tryz.prog.underlying t with | some (.int k) => some k | _ => none))) = true := by kernel_rfl
theorem jk_pinned : ((Rows.fieldKeysRow.pinned == Rows.fieldKeysRow.pinnedBy)) = true := by kernel_rfl
theorem jk_veiled : ((Rows.fieldKeysRow.veiled == (Tryz.f3.params.toList ++ Rows.fieldKeysSpec.plain.varTypes Tryz.prog ++ Tryz.f3.resultTypes.toList).any (Tryz.prog.veiledRec ·))) = true := by kernel_rfl
theorem jk_fits : (Rows.fieldKeysRow.veiledFits Tryz.prog Tryz.f3.params.toList (Tryz.f3.params.toList ++ Rows.fieldKeysSpec.plain.varTypes Tryz.prog ++ Tryz.f3.resultTypes.toList)) = true := by kernel_rfl
end
end Sw
