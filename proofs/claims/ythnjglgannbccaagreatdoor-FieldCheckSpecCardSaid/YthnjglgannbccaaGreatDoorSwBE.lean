/- A part of the proof that the law returns true for every input that its row speaks of. No condition is added. -/
import Derived.Test.YthnjglgannbccaaGreatDoorRows
import Derived.Test.YthnjglgannbccaaGreatDoorCards
import Derived.JoinedOf
namespace Sw
noncomputable section
open Go Go.Proofs Go.Proofs.YthnjglgannbccaaGreatDoor
set_option maxRecDepth 100000
theorem jc_wf : (Rows.fieldCheckSpecRow.wf (OpenSpec.ofChange Rows.fieldCheckSpecSpec)) = true := by kernel_rfl
theorem jc_laidOut : (laidOutB Tryz.prog) = true := by kernel_rfl
theorem jc_mapsRowed : (mapsRowed Tryz.prog) = true := by kernel_rfl
theorem jc_readable : (Tryz.f3.params.all (Tryz.prog.readableRec ·)) = true := by kernel_rfl
theorem jc_namedTie : (namedTie Tryz.prog Rows.fieldCheckSpecRow.named Rows.fieldCheckSpecSpec.vars) = true := by kernel_rfl
theorem jc_stops : ((Rows.fieldCheckSpecRow.stops == [])) = true := by kernel_rfl
theorem jc_pstops : ((Tryz.prog.stops == [])) = true := by kernel_rfl
theorem jc_knobs : ((Rows.fieldCheckSpecRow.knobs == [])) = true := by kernel_rfl
theorem jc_stopKnobs : ((Tryz.prog.stopKnobs == [])) = true := by kernel_rfl
theorem jc_maps : ((Rows.fieldCheckSpecRow.maps == (Tryz.f3.params.toList ++ Rows.fieldCheckSpecSpec.plain.varTypes Tryz.prog).any (Tryz.prog.mapsRec ·))) = true := by kernel_rfl
theorem jc_ifaces : ((Rows.fieldCheckSpecRow.ifaces == (Tryz.f3.params.toList ++ Rows.fieldCheckSpecSpec.plain.varTypes Tryz.prog).any (Tryz.prog.ifacesRec ·))) = true := by kernel_rfl
theorem jc_mapsOut : ((Rows.fieldCheckSpecRow.mapsOut == Tryz.prog.mapsAmong Tryz.f3.resultTypes.toList)) = true := by kernel_rfl
theorem jc_loops : ((Rows.fieldCheckSpecRow.loops == (Tryz.f3.params.toList ++ Rows.fieldCheckSpecSpec.plain.varTypes Tryz.prog).any (Tryz.prog.loopsFrom ·))) = true := by kernel_rfl
theorem jc_wideKeys : ((Rows.fieldCheckSpecRow.wideKeys == (Tryz.f3.params.toList ++ Rows.fieldCheckSpecSpec.plain.varTypes Tryz.prog ++ Tryz.f3.resultTypes.toList).any (Tryz.prog.wideKeysFrom ·))) = true := by kernel_rfl
theorem jc_varRd : (Rows.fieldCheckSpecSpec.vars.all (Tryz.prog.varReadable ·)) = true := by kernel_rfl
theorem jc_resRd : (Tryz.f3.resultTypes.all (fun t => Tryz.prog.readableRec t && decide (t < Tryz.prog.types.size))) = true := by kernel_rfl
theorem jc_ifacesOut : ((Rows.fieldCheckSpecRow.ifacesOut == Tryz.f3.resultTypes.toList.any (Tryz.prog.ifacesRec ·))) = true := by kernel_rfl
theorem jc_loopsOut : ((Rows.fieldCheckSpecRow.loopsOut == Tryz.f3.resultTypes.toList.any (Tryz.prog.loopsFrom ·))) = true := by kernel_rfl
theorem jc_plainKeys : ((Rows.fieldCheckSpecRow.plainKeys == Tryz.prog.plainKeys)) = true := by kernel_rfl
theorem jc_shortTexts : (Rows.fieldCheckSpecRow.shortTexts.isNone) = true := by kernel_rfl
theorem jc_stopsHeard : (Tryz.prog.stopsHeard) = true := by kernel_rfl
theorem jc_mayEnter : (Tryz.prog.mayEnter) = true := by kernel_rfl
theorem jc_lifted : ((Rows.fieldCheckSpecRow.lifted == Tryz.prog.liftsFinal)) = true := by kernel_rfl
theorem jc_make : ((Tryz.prog.make == some Rows.fieldCheckSpecRow.make)) = true := by kernel_rfl
theorem jc_kinds : ((Rows.fieldCheckSpecRow.kinds == (if Rows.fieldCheckSpecRow.domain.isEmpty then [] else Tryz.f3.params.toList.map fun t => match Tryz.prog.underlying t with | some (.int k) => some k | _ => none))) = true := by kernel_rfl
theorem jc_pinned : ((Rows.fieldCheckSpecRow.pinned == Rows.fieldCheckSpecRow.pinnedBy)) = true := by kernel_rfl
theorem jc_veiled : ((Rows.fieldCheckSpecRow.veiled == (Tryz.f3.params.toList ++ Rows.fieldCheckSpecSpec.plain.varTypes Tryz.prog ++ Tryz.f3.resultTypes.toList).any (Tryz.prog.veiledRec ·))) = true := by kernel_rfl
theorem jc_fits : (Rows.fieldCheckSpecRow.veiledFits Tryz.prog Tryz.f3.params.toList (Tryz.f3.params.toList ++ Rows.fieldCheckSpecSpec.plain.varTypes Tryz.prog ++ Tryz.f3.resultTypes.toList)) = true := by kernel_rfl
end
end Sw
