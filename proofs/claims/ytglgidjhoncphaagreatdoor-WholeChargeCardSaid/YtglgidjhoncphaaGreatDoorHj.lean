/- Proved here: contracts, each under its own premises. -/
import Derived.Test.YtglgidjhoncphaaGreatDoorTie
import Derived.Test.YtglgidjhoncphaaGreatDoorCards
import Derived.SevenTiedAt
import Derived.ProofKit
set_option linter.all false
set_option maxRecDepth 4000
set_option maxHeartbeats 4000000
open Go.Proofs.Tryz renaming prog->VU
namespace Go.Proofs.YtglgidjhoncphaaGreatDoor
open Go
set_option maxRecDepth 100000
theorem gT{a b:Bool}(h:a=true)(k:b=true):(a&&b)=true:=by rw[h,k];rfl
theorem MI:(Rows.wholeChargeRow.wf (OpenSpec.ofChange Rows.wholeChargeSpec))=true:=by kernel_rfl
theorem MJ:(laidOutB VU)=true:=by kernel_rfl
theorem MU:(mapsRowed VU)=true:=by kernel_rfl
theorem M5:(Tryz.f7.params.all (Tryz.prog.readableRec ·))=true:=by kernel_rfl
theorem M8:(namedTie VU Rows.wholeChargeRow.named Rows.wholeChargeSpec.vars)=true:=by kernel_rfl
theorem M9:((Rows.wholeChargeRow.stops==[]))=true:=by kernel_rfl
theorem Na:((Tryz.prog.stops==[]))=true:=by kernel_rfl
theorem Nb:((Rows.wholeChargeRow.knobs==[]))=true:=by kernel_rfl
theorem Nc:((Tryz.prog.stopKnobs==[]))=true:=by kernel_rfl
theorem Nd:((Rows.wholeChargeRow.inPlace==Tryz.prog.inPlace 7))=true:=by kernel_rfl
theorem MK:((Rows.wholeChargeRow.unfollowed==Tryz.prog.unfollowed 7))=true:=by kernel_rfl
theorem ML:((Rows.wholeChargeRow.recurses==Tryz.prog.recurses 7))=true:=by kernel_rfl
theorem MM:((Rows.wholeChargeRow.named==Tryz.prog.varsNamed 7))=true:=by kernel_rfl
theorem MN:((Rows.wholeChargeRow.maps==(Tryz.f7.params.toList++Rows.wholeChargeSpec.plain.varTypes VU).any (Tryz.prog.mapsRec ·)))=true:=by kernel_rfl
theorem MO:((Rows.wholeChargeRow.ifaces==(Tryz.f7.params.toList++Rows.wholeChargeSpec.plain.varTypes VU).any (Tryz.prog.ifacesRec ·)))=true:=by kernel_rfl
theorem MP:((Rows.wholeChargeRow.mapsOut==Tryz.prog.mapsAmong Tryz.f7.resultTypes.toList))=true:=by kernel_rfl
theorem MQ:((Rows.wholeChargeRow.loops==(Tryz.f7.params.toList++Rows.wholeChargeSpec.plain.varTypes VU).any (Tryz.prog.loopsFrom ·)))=true:=by kernel_rfl
theorem MR:((Rows.wholeChargeRow.wideKeys==(Tryz.f7.params.toList++Rows.wholeChargeSpec.plain.varTypes VU++Tryz.f7.resultTypes.toList).any (Tryz.prog.wideKeysFrom ·)))=true:=by kernel_rfl
theorem MS:(Rows.wholeChargeSpec.vars.all (Tryz.prog.varReadable ·))=true:=by kernel_rfl
theorem MT:(Tryz.f7.resultTypes.all (λt=>Tryz.prog.readableRec t&&decide (t<Tryz.prog.types.size)))=true:=by kernel_rfl
theorem MV:((Rows.wholeChargeRow.ifacesOut==Tryz.f7.resultTypes.toList.any (Tryz.prog.ifacesRec ·)))=true:=by kernel_rfl
theorem MW:((Rows.wholeChargeRow.loopsOut==Tryz.f7.resultTypes.toList.any (Tryz.prog.loopsFrom ·)))=true:=by kernel_rfl
theorem MX:((Rows.wholeChargeRow.plainKeys==Tryz.prog.plainKeys))=true:=by kernel_rfl
theorem MY:(Rows.wholeChargeRow.shortTexts.isNone)=true:=by kernel_rfl
theorem MZ:(Tryz.prog.stopsHeard)=true:=by kernel_rfl
theorem M0:(Tryz.prog.mayEnter)=true:=by kernel_rfl
theorem M1:((Rows.wholeChargeRow.lifted==Tryz.prog.liftsFinal))=true:=by kernel_rfl
theorem M2:((Tryz.prog.make==some Rows.wholeChargeRow.make))=true:=by kernel_rfl
theorem M3:((Rows.wholeChargeRow.kinds==(if Rows.wholeChargeRow.domain.isEmpty then[]else Tryz.f7.params.toList.map λt=>match Tryz.prog.underlying t with|some (.int k)=>some k|_=>none)))=true:=by kernel_rfl
theorem M4:((Rows.wholeChargeRow.pinned==Rows.wholeChargeRow.pinnedBy))=true:=by kernel_rfl
theorem M6:((Rows.wholeChargeRow.veiled==(Tryz.f7.params.toList++Rows.wholeChargeSpec.plain.varTypes VU++Tryz.f7.resultTypes.toList).any (Tryz.prog.veiledRec ·)))=true:=by kernel_rfl
theorem M7:(Rows.wholeChargeRow.veiledFits VU Tryz.f7.params.toList (Tryz.f7.params.toList++Rows.wholeChargeSpec.plain.varTypes VU++Tryz.f7.resultTypes.toList))=true:=by kernel_rfl
theorem RP:joinedFacts VU 7 Tryz.f7 Rows.wholeChargeSpec Rows.wholeChargeRow=true:=(gT (gT (gT (gT (gT (gT (gT (gT (gT (gT (gT (gT (gT (gT (gT (gT (gT (gT (gT (gT (gT (gT (gT (gT (gT (gT (gT (gT (gT (gT (gT MI MJ) MU) M5) M8) M9) Na) Nb) Nc) Nd) MK) ML) MM) MN) MO) MP) MQ) MR) MS) MT) MV) MW) MX) MY) MZ) M0) M1) M2) M3) M4) M6) M7)
end Go.Proofs.YtglgidjhoncphaaGreatDoor
