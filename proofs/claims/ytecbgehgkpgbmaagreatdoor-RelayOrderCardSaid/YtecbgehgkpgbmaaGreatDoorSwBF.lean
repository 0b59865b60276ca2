/- A part of the proof that the law returns true for every input that its row speaks of. No condition is added. -/
import Derived.Test.YtecbgehgkpgbmaaGreatDoorRows
import Derived.Test.YtecbgehgkpgbmaaGreatDoorCards
import Derived.JoinedOf
namespace Sw
noncomputable section
open Go Go.Proofs Go.Proofs.YtecbgehgkpgbmaaGreatDoor
set_option maxRecDepth 100000
theorem Yw:(Rows.relayOrderRow.wf (OpenSpec.ofChange Rows.relayOrderSpec))=true:=by kernel_rfl
theorem QO:(laidOutB Tryz.prog)=true:=by kernel_rfl
theorem NP:(mapsRowed Tryz.prog)=true:=by kernel_rfl
theorem OC:(Tryz.f3.params.all (Tryz.prog.readableRec ·))=true:=by kernel_rfl
theorem OD:(namedTie Tryz.prog Rows.relayOrderRow.named Rows.relayOrderSpec.vars)=true:=by kernel_rfl
theorem UP:((Rows.relayOrderRow.stops==[]))=true:=by kernel_rfl
theorem SS:((Tryz.prog.stops==[]))=true:=by kernel_rfl
theorem UQ:((Rows.relayOrderRow.knobs==[]))=true:=by kernel_rfl
theorem NQ:((Tryz.prog.stopKnobs==[]))=true:=by kernel_rfl
theorem Wt:((Rows.relayOrderRow.maps==(Tryz.f3.params.toList++Rows.relayOrderSpec.plain.varTypes Tryz.prog).any (Tryz.prog.mapsRec ·)))=true:=by kernel_rfl
theorem SU:((Rows.relayOrderRow.ifaces==(Tryz.f3.params.toList++Rows.relayOrderSpec.plain.varTypes Tryz.prog).any (Tryz.prog.ifacesRec ·)))=true:=by kernel_rfl
theorem QP:((Rows.relayOrderRow.mapsOut==Tryz.prog.mapsAmong Tryz.f3.resultTypes.toList))=true:=by kernel_rfl
theorem UR:((Rows.relayOrderRow.loops==(Tryz.f3.params.toList++Rows.relayOrderSpec.plain.varTypes Tryz.prog).any (Tryz.prog.loopsFrom ·)))=true:=by kernel_rfl
theorem OE:((Rows.relayOrderRow.wideKeys==(Tryz.f3.params.toList++Rows.relayOrderSpec.plain.varTypes Tryz.prog++Tryz.f3.resultTypes.toList).any (Tryz.prog.wideKeysFrom ·)))=true:=by kernel_rfl
theorem US:(Rows.relayOrderSpec.vars.all (Tryz.prog.varReadable ·))=true:=by kernel_rfl
theorem UT:(Tryz.f3.resultTypes.all (fun t=>Tryz.prog.readableRec t&&decide (t<Tryz.prog.types.size)))=true:=by kernel_rfl
theorem NR:((Rows.relayOrderRow.ifacesOut==Tryz.f3.resultTypes.toList.any (Tryz.prog.ifacesRec ·)))=true:=by kernel_rfl
theorem OF:((Rows.relayOrderRow.loopsOut==Tryz.f3.resultTypes.toList.any (Tryz.prog.loopsFrom ·)))=true:=by kernel_rfl
theorem NS:((Rows.relayOrderRow.plainKeys==Tryz.prog.plainKeys))=true:=by kernel_rfl
theorem K6:(Rows.relayOrderRow.shortTexts.isNone)=true:=by kernel_rfl
theorem K7:(Tryz.prog.stopsHeard)=true:=by kernel_rfl
theorem OG:(Tryz.prog.mayEnter)=true:=by kernel_rfl
theorem SX:((Rows.relayOrderRow.lifted==Tryz.prog.liftsFinal))=true:=by kernel_rfl
theorem Wu:((Tryz.prog.make==some Rows.relayOrderRow.make))=true:=by kernel_rfl
theorem UU:((Rows.relayOrderRow.kinds==(if Rows.relayOrderRow.domain.isEmpty then []else Tryz.f3.params.toList.map fun t=>match Tryz.prog.underlying t with|some (.int k)=>some k|_=>none)))=true:=by kernel_rfl
theorem SY:((Rows.relayOrderRow.pinned==Rows.relayOrderRow.pinnedBy))=true:=by kernel_rfl
theorem SZ:((Rows.relayOrderRow.veiled==(Tryz.f3.params.toList++Rows.relayOrderSpec.plain.varTypes Tryz.prog++Tryz.f3.resultTypes.toList).any (Tryz.prog.veiledRec ·)))=true:=by kernel_rfl
theorem Wv:(Rows.relayOrderRow.veiledFits Tryz.prog Tryz.f3.params.toList (Tryz.f3.params.toList++Rows.relayOrderSpec.plain.varTypes Tryz.prog++Tryz.f3.resultTypes.toList))=true:=by kernel_rfl
end
end Sw
