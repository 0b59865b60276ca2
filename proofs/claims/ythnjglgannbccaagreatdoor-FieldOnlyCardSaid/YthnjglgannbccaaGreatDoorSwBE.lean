/- A part of the proof that the law returns true for every input that its row speaks of. No condition is added. -/
import Derived.Test.YthnjglgannbccaaGreatDoorRows
import Derived.Test.YthnjglgannbccaaGreatDoorCards
import Derived.JoinedOf
namespace Sw
noncomputable section
open Go Go.Proofs Go.Proofs.YthnjglgannbccaaGreatDoor
set_option maxRecDepth 100000
theorem jo_wf : (Rows.fieldOnlyRow.wf (OpenSpec.ofChange Rows.fieldOnlySpec)) = true := by kernel_rfl
theorem jo_laidOut : (laidOutB Tryz.prog) = true := by kernel_rfl
theorem jo_mapsRowed : (mapsRowed Tryz.prog) = true := by kernel_rfl
theorem jo_readable : (Tryz.f4.params.all (Tryz.prog.readableRec ·)) = true := by kernel_rfl
theorem jo_namedTie : (namedTie Tryz.prog Rows.fieldOnlyRow.named Rows.fieldOnlySpec.vars) = true := by kernel_rfl
theorem jo_stops : ((Rows.fieldOnlyRow.stops == [])) = true := by kernel_rfl
theorem jo_pstops : ((Tryz.prog.stops == [])) = true := by kernel_rfl
theorem jo_knobs : ((Rows.fieldOnlyRow.knobs == [])) = true := by kernel_rfl
theorem jo_stopKnobs : ((Tryz.prog.stopKnobs == [])) = true := by kernel_rfl
theorem jo_maps : ((Rows.fieldOnlyRow.maps == (Tryz.f4.params.toList ++ Rows.fieldOnlySpec.plain.varTypes Tryz.prog).any (Tryz.prog.mapsRec ·))) = true := by kernel_rfl
theorem jo_ifaces : ((Rows.fieldOnlyRow.ifaces == (Tryz.f4.params.toList ++ Rows.fieldOnlySpec.plain.varTypes Tryz.prog).any (Tryz.prog.ifacesRec ·))) = true := by kernel_rfl
theorem jo_mapsOut : ((Rows.fieldOnlyRow.mapsOut == Tryz.prog.mapsAmong Tryz.f4.resultTypes.toList)) = true := by kernel_rfl
theorem jo_loops : ((Rows.fieldOnlyRow.loops == (Tryz.f4.params.toList ++ Rows.fieldOnlySpec.plain.varTypes Tryz.prog).any (Tryz.prog.loopsFrom ·))) = true := by kernel_rfl
theorem jo_wideKeys : ((Rows.fieldOnlyRow.wideKeys == (Tryz.f4.params.toList ++ Rows.fieldOnlySpec.plain.varTypes Tryz.prog ++ Tryz.f4.resultTypes.toList).any (Tryz.prog.wideKeysFrom ·))) = true := by kernel_rfl
theorem jo_varRd : (Rows.fieldOnlySpec.vars.all (Tryz.prog.varReadable ·)) = true := by kernel_rfl
theorem jo_resRd : (Tryz.f4.resultTypes.all (fun t => Tryz.prog.readableRec t && decide (t < Tryz.prog.types.size))) = true := by kernel_rfl
theorem jo_ifacesOut : ((Rows.fieldOnlyRow.ifacesOut == Tryz.f4.resultTypes.toList.any (Tryz.prog.ifacesRec ·))) = true := by kernel_rfl
theorem jo_loopsOut : ((Rows.fieldOnlyRow.loopsOut == Tryz.f4.resultTypes.toList.any (Tryz.prog.loopsFrom ·))) = true := by kernel_rfl
theorem jo_plainKeys : ((Rows.fieldOnlyRow.plainKeys == Tryz.prog.plainKeys)) = true := by kernel_rfl
theorem jo_shortTexts : (Rows.fieldOnlyRow.shortTexts.isNone) = true := by kernel_rfl
theorem jo_stopsHeard : (Tryz.prog.stopsHeard) = true := by kernel_rfl
theorem jo_mayEnter : (Tryz.prog.mayEnter) = true := by kernel_rfl
theorem jo_lifted : ((Rows.fieldOnlyRow.lifted == Tryz.prog.liftsFinal)) = true := by kernel_rfl
theorem jo_make : ((Tryz.prog.make == some Rows.fieldOnlyRow.make)) = true := by kernel_rfl
theorem jo_kinds : ((Rows.fieldOnlyRow.kinds == (if Rows.fieldOnlyRow.domain.isEmpty then [] else Tryz.f4.params.toList.map fun t => match Tryz.prog.underlying t with | some (.int k) => some k | _ => none))) = true := by kernel_rfl
theorem jo_pinned : ((Rows.fieldOnlyRow.pinned == Rows.fieldOnlyRow.pinnedBy)) = true := by kernel_rfl
theorem jo_veiled : ((Rows.fieldOnlyRow.veiled == (Tryz.f4.params.toList ++ Rows.fieldOnlySpec.plain.varTypes Tryz.prog ++ Tryz.f4.resultTypes.toList).any (Tryz.prog.veiledRec ·))) = true := by kernel_rfl
theorem jo_fits : (Rows.fieldOnlyRow.veiledFits Tryz.prog Tryz.f4.params.toList (Tryz.f4.params.toList ++ Rows.fieldOnlySpec.plain.varTypes Tryz.prog ++ Tryz.f4.resultTypes.toList)) = true := by kernel_rfl
end
end Sw
