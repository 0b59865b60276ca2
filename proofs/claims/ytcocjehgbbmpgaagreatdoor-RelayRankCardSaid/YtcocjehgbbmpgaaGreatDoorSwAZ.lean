/- A part of the proof that the law returns true for every input that its row speaks of. No condition is added. -/
import Derived.Test.YtcocjehgbbmpgaaGreatDoorRows
import Derived.Test.YtcocjehgbbmpgaaGreatDoorCards
import Derived.JoinedOf
namespace Sw
noncomputable section
open Go Go.Proofs Go.Proofs.YtcocjehgbbmpgaaGreatDoor
set_option maxRecDepth 100000
theorem jr_wf : (Rows.relayRankRow.wf (OpenSpec.ofChange Rows.relayRankSpec)) = true := by kernel_rfl
theorem jr_laidOut : (laidOutB Tryz.prog) = true := by kernel_rfl
theorem jr_mapsRowed : (mapsRowed Tryz.prog) = true := by kernel_rfl
theorem jr_readable : (Tryz.f3.params.all (Tryz.prog.readableRec ·)) = true := by kernel_rfl
theorem jr_namedTie : (namedTie Tryz.prog Rows.relayRankRow.named Rows.relayRankSpec.vars) = true := by kernel_rfl
theorem jr_stops : ((Rows.relayRankRow.stops == [])) = true := by kernel_rfl
theorem jr_pstops : ((Tryz.prog.stops == [])) = true := by kernel_rfl
theorem jr_knobs : ((Rows.relayRankRow.knobs == [])) = true := by kernel_rfl
theorem jr_stopKnobs : ((Tryz.prog.stopKnobs == [])) = true := by kernel_rfl
theorem jr_maps : ((Rows.relayRankRow.maps == (Tryz.f3.params.toList ++ Rows.relayRankSpec.plain.varTypes Tryz.prog).any (Tryz.prog.mapsRec ·))) = true := by kernel_rfl
theorem jr_ifaces : ((Rows.relayRankRow.ifaces == (Tryz.f3.params.toList ++ Rows.relayRankSpec.plain.varTypes Tryz.prog).any (Tryz.prog.ifacesRec ·))) = true := by kernel_rfl
theorem jr_mapsOut : ((Rows.relayRankRow.mapsOut == Tryz.prog.mapsAmong Tryz.f3.resultTypes.toList)) = true := by kernel_rfl
theorem jr_loops : ((Rows.relayRankRow.loops == (Tryz.f3.params.toList ++ Rows.relayRankSpec.plain.varTypes Tryz.prog).any (Tryz.prog.loopsFrom ·))) = true := by kernel_rfl
theorem jr_wideKeys : ((Rows.relayRankRow.wideKeys == (Tryz.f3.params.toList ++ Rows.relayRankSpec.plain.varTypes Tryz.prog ++ Tryz.f3.resultTypes.toList).any (Tryz.prog.wideKeysFrom ·))) = true := by kernel_rfl
theorem jr_varRd : (Rows.relayRankSpec.vars.all (Tryz.prog.varReadable ·)) = true := by kernel_rfl
theorem jr_resRd : (Tryz.f3.resultTypes.all (fun t => Tryz.prog.readableRec t && decide (t < Tryz.prog.types.size))) = true := by kernel_rfl
theorem jr_ifacesOut : ((Rows.relayRankRow.ifacesOut == Tryz.f3.resultTypes.toList.any (Tryz.prog.ifacesRec ·))) = true := by kernel_rfl
theorem jr_loopsOut : ((Rows.relayRankRow.loopsOut == Tryz.f3.resultTypes.toList.any (Tryz.prog.loopsFrom ·))) = true := by kernel_rfl
theorem jr_plainKeys : ((Rows.relayRankRow.plainKeys == Tryz.prog.plainKeys)) = true := by kernel_rfl
theorem jr_shortTexts : (Rows.relayRankRow.shortTexts.isNone) = true := by kernel_rfl
theorem jr_stopsHeard : (Tryz.prog.stopsHeard) = true := by kernel_rfl
theorem jr_mayEnter : (Tryz.prog.mayEnter) = true := by kernel_rfl
theorem jr_lifted : ((Rows.relayRankRow.lifted == Tryz.prog.liftsFinal)) = true := by kernel_rfl
theorem jr_make : ((Tryz.prog.make == some Rows.relayRankRow.make)) = true := by kernel_rfl
theorem jr_kinds : ((Rows.relayRankRow.kinds == (if Rows.relayRankRow.domain.isEmpty then [] else Tryz.f3.params.toList.map fun t => match Tryz.prog.underlying t with | some (.int k) => some k | _ => none))) = true := by kernel_rfl
theorem jr_pinned : ((Rows.relayRankRow.pinned == Rows.relayRankRow.pinnedBy)) = true := by kernel_rfl
theorem jr_veiled : ((Rows.relayRankRow.veiled == (Tryz.f3.params.toList ++ Rows.relayRankSpec.plain.varTypes Tryz.prog ++ Tryz.f3.resultTypes.toList).any (Tryz.prog.veiledRec ·))) = true := by kernel_rfl
theorem jr_fits : (Rows.relayRankRow.veiledFits Tryz.prog Tryz.f3.params.toList (Tryz.f3.params.toList ++ Rows.relayRankSpec.plain.varTypes Tryz.prog ++ Tryz.f3.resultTypes.toList)) = true := by kernel_rfl
end
end Sw
