/- A part of the proof that the law returns true for every input that its row speaks of. No condition is added. -/
import Derived.Test.YtecbgehgkpgbmaaGreatDoorRows
import Derived.Test.YtecbgehgkpgbmaaGreatDoorCards
import Derived.JoinedOf
namespace Sw
noncomputable section
open Go Go.Proofs Go.Proofs.YtecbgehgkpgbmaaGreatDoor
set_option maxRecDepth 100000
theorem ZE:(Rows.relaySoundRow.wf (OpenSpec.ofChange Rows.relaySoundSpec))=true:=by kernel_rfl
theorem RA:(laidOutB Tryz.prog)=true:=by kernel_rfl
theorem Ov:(mapsRowed Tryz.prog)=true:=by kernel_rfl
theorem Pk:(Tryz.f4.params.all (Tryz.prog.readableRec ·))=true:=by kernel_rfl
theorem Pl:(namedTie Tryz.prog Rows.relaySoundRow.named Rows.relaySoundSpec.vars)=true:=by kernel_rfl
theorem VR:((Rows.relaySoundRow.stops==[]))=true:=by kernel_rfl
theorem TY:((Tryz.prog.stops==[]))=true:=by kernel_rfl
theorem VS:((Rows.relaySoundRow.knobs==[]))=true:=by kernel_rfl
theorem Ow:((Tryz.prog.stopKnobs==[]))=true:=by kernel_rfl
theorem XD:((Rows.relaySoundRow.maps==(Tryz.f4.params.toList++Rows.relaySoundSpec.plain.varTypes Tryz.prog).any (Tryz.prog.mapsRec ·)))=true:=by kernel_rfl
theorem T0:((Rows.relaySoundRow.ifaces==(Tryz.f4.params.toList++Rows.relaySoundSpec.plain.varTypes Tryz.prog).any (Tryz.prog.ifacesRec ·)))=true:=by kernel_rfl
theorem RB:((Rows.relaySoundRow.mapsOut==Tryz.prog.mapsAmong Tryz.f4.resultTypes.toList))=true:=by kernel_rfl
theorem VT:((Rows.relaySoundRow.loops==(Tryz.f4.params.toList++Rows.relaySoundSpec.plain.varTypes Tryz.prog).any (Tryz.prog.loopsFrom ·)))=true:=by kernel_rfl
theorem Pm:((Rows.relaySoundRow.wideKeys==(Tryz.f4.params.toList++Rows.relaySoundSpec.plain.varTypes Tryz.prog++Tryz.f4.resultTypes.toList).any (Tryz.prog.wideKeysFrom ·)))=true:=by kernel_rfl
theorem VU:(Rows.relaySoundSpec.vars.all (Tryz.prog.varReadable ·))=true:=by kernel_rfl
theorem VV:(Tryz.f4.resultTypes.all (fun t=>Tryz.prog.readableRec t&&decide (t<Tryz.prog.types.size)))=true:=by kernel_rfl
theorem Ox:((Rows.relaySoundRow.ifacesOut==Tryz.f4.resultTypes.toList.any (Tryz.prog.ifacesRec ·)))=true:=by kernel_rfl
theorem Pn:((Rows.relaySoundRow.loopsOut==Tryz.f4.resultTypes.toList.any (Tryz.prog.loopsFrom ·)))=true:=by kernel_rfl
theorem Oy:((Rows.relaySoundRow.plainKeys==Tryz.prog.plainKeys))=true:=by kernel_rfl
theorem LL:(Rows.relaySoundRow.shortTexts.isNone)=true:=by kernel_rfl
theorem LM:(Tryz.prog.stopsHeard)=true:=by kernel_rfl
theorem Po:(Tryz.prog.mayEnter)=true:=by kernel_rfl
theorem T2:((Rows.relaySoundRow.lifted==Tryz.prog.liftsFinal))=true:=by kernel_rfl
theorem XE:((Tryz.prog.make==some Rows.relaySoundRow.make))=true:=by kernel_rfl
theorem VW:((Rows.relaySoundRow.kinds==(if Rows.relaySoundRow.domain.isEmpty then []else Tryz.f4.params.toList.map fun t=>match Tryz.prog.underlying t with|some (.int k)=>some k|_=>none)))=true:=by kernel_rfl
theorem T4:((Rows.relaySoundRow.pinned==Rows.relaySoundRow.pinnedBy))=true:=by kernel_rfl
theorem T5:((Rows.relaySoundRow.veiled==(Tryz.f4.params.toList++Rows.relaySoundSpec.plain.varTypes Tryz.prog++Tryz.f4.resultTypes.toList).any (Tryz.prog.veiledRec ·)))=true:=by kernel_rfl
theorem XF:(Rows.relaySoundRow.veiledFits Tryz.prog Tryz.f4.params.toList (Tryz.f4.params.toList++Rows.relaySoundSpec.plain.varTypes Tryz.prog++Tryz.f4.resultTypes.toList))=true:=by kernel_rfl
end
end Sw
