/- A part of the proof that the law returns true for every input that its row speaks of. No condition is added. -/
import Derived.Test.YtecbgehgkpgbmaaGreatDoorRows
import Derived.Test.YtecbgehgkpgbmaaGreatDoorCards
import Derived.JoinedOf
namespace Sw
noncomputable section
open Go Go.Proofs Go.Proofs.YtecbgehgkpgbmaaGreatDoor
set_option maxRecDepth 100000
theorem Zj:(Rows.relaySoundRow.wf (OpenSpec.ofChange Rows.relaySoundSpec))=true:=by kernel_rfl
theorem Rc:(laidOutB Tryz.prog)=true:=by kernel_rfl
theorem N7:(mapsRowed Tryz.prog)=true:=by kernel_rfl
theorem OZ:(Tryz.f4.params.all (Tryz.prog.readableRec ·))=true:=by kernel_rfl
theorem O0:(namedTie Tryz.prog Rows.relaySoundRow.named Rows.relaySoundSpec.vars)=true:=by kernel_rfl
theorem Vw:((Rows.relaySoundRow.stops==[]))=true:=by kernel_rfl
theorem TC:((Tryz.prog.stops==[]))=true:=by kernel_rfl
theorem Vx:((Rows.relaySoundRow.knobs==[]))=true:=by kernel_rfl
theorem N8:((Tryz.prog.stopKnobs==[]))=true:=by kernel_rfl
theorem Xi:((Rows.relaySoundRow.maps==(Tryz.f4.params.toList++Rows.relaySoundSpec.plain.varTypes Tryz.prog).any (Tryz.prog.mapsRec ·)))=true:=by kernel_rfl
theorem TD:((Rows.relaySoundRow.ifaces==(Tryz.f4.params.toList++Rows.relaySoundSpec.plain.varTypes Tryz.prog).any (Tryz.prog.ifacesRec ·)))=true:=by kernel_rfl
theorem Re:((Rows.relaySoundRow.mapsOut==Tryz.prog.mapsAmong Tryz.f4.resultTypes.toList))=true:=by kernel_rfl
theorem Vy:((Rows.relaySoundRow.loops==(Tryz.f4.params.toList++Rows.relaySoundSpec.plain.varTypes Tryz.prog).any (Tryz.prog.loopsFrom ·)))=true:=by kernel_rfl
theorem O1:((Rows.relaySoundRow.wideKeys==(Tryz.f4.params.toList++Rows.relaySoundSpec.plain.varTypes Tryz.prog++Tryz.f4.resultTypes.toList).any (Tryz.prog.wideKeysFrom ·)))=true:=by kernel_rfl
theorem Vz:(Rows.relaySoundSpec.vars.all (Tryz.prog.varReadable ·))=true:=by kernel_rfl
theorem VA:(Tryz.f4.resultTypes.all (fun t=>Tryz.prog.readableRec t&&decide (t<Tryz.prog.types.size)))=true:=by kernel_rfl
theorem N9:((Rows.relaySoundRow.ifacesOut==Tryz.f4.resultTypes.toList.any (Tryz.prog.ifacesRec ·)))=true:=by kernel_rfl
theorem O2:((Rows.relaySoundRow.loopsOut==Tryz.f4.resultTypes.toList.any (Tryz.prog.loopsFrom ·)))=true:=by kernel_rfl
theorem N_:((Rows.relaySoundRow.plainKeys==Tryz.prog.plainKeys))=true:=by kernel_rfl
theorem Lq:(Rows.relaySoundRow.shortTexts.isNone)=true:=by kernel_rfl
theorem Lr:(Tryz.prog.stopsHeard)=true:=by kernel_rfl
theorem O3:(Tryz.prog.mayEnter)=true:=by kernel_rfl
theorem TE:((Rows.relaySoundRow.lifted==Tryz.prog.liftsFinal))=true:=by kernel_rfl
theorem Xj:((Tryz.prog.make==some Rows.relaySoundRow.make))=true:=by kernel_rfl
theorem VB:((Rows.relaySoundRow.kinds==(if Rows.relaySoundRow.domain.isEmpty then []else Tryz.f4.params.toList.map fun t=>match Tryz.prog.underlying t with|some (.int k)=>some k|_=>none)))=true:=by kernel_rfl
theorem TF:((Rows.relaySoundRow.pinned==Rows.relaySoundRow.pinnedBy))=true:=by kernel_rfl
theorem TG:((Rows.relaySoundRow.veiled==(Tryz.f4.params.toList++Rows.relaySoundSpec.plain.varTypes Tryz.prog++Tryz.f4.resultTypes.toList).any (Tryz.prog.veiledRec ·)))=true:=by kernel_rfl
theorem Xk:(Rows.relaySoundRow.veiledFits Tryz.prog Tryz.f4.params.toList (Tryz.f4.params.toList++Rows.relaySoundSpec.plain.varTypes Tryz.prog++Tryz.f4.resultTypes.toList))=true:=by kernel_rfl
end
end Sw
