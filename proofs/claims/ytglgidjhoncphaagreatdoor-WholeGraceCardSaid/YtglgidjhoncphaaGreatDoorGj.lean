/- Proved here: contracts, each under its own premises. -/
import Derived.Test.YtglgidjhoncphaaGreatDoorTie
import Derived.Test.YtglgidjhoncphaaGreatDoorCards
import Derived.SevenTiedAt
import Derived.ProofKit
set_option linter.all false
set_option maxRecDepth 4000
set_option maxHeartbeats 4000000
open Go.Proofs.Tryz renaming prog->VS
namespace Go.Proofs.YtglgidjhoncphaaGreatDoor
open Go
set_option maxRecDepth 100000
theorem gU{a b:Bool}(h:a=true)(k:b=true):(a&&b)=true:=by rw[h,k];rfl
theorem MI:(Rows.wholeGraceRow.wf (OpenSpec.ofChange Rows.wholeGraceSpec))=true:=by kernel_rfl
theorem MJ:(laidOutB VS)=true:=by kernel_rfl
theorem MU:(mapsRowed VS)=true:=by kernel_rfl
theorem M5:(Tryz.f6.params.all (Tryz.prog.readableRec ·))=true:=by kernel_rfl
theorem M8:(namedTie VS Rows.wholeGraceRow.named Rows.wholeGraceSpec.vars)=true:=by kernel_rfl
theorem M9:((Rows.wholeGraceRow.stops==[]))=true:=by kernel_rfl
theorem Na:((Tryz.prog.stops==[]))=true:=by kernel_rfl
theorem Nb:((Rows.wholeGraceRow.knobs==[]))=true:=by kernel_rfl
theorem Nc:((Tryz.prog.stopKnobs==[]))=true:=by kernel_rfl
theorem Nd:((Rows.wholeGraceRow.inPlace==Tryz.prog.inPlace 6))=true:=by kernel_rfl
theorem MK:((Rows.wholeGraceRow.unfollowed==Tryz.prog.unfollowed 6))=true:=by kernel_rfl
theorem ML:((Rows.wholeGraceRow.recurses==Tryz.prog.recurses 6))=true:=by kernel_rfl
theorem MM:((Rows.wholeGraceRow.named==Tryz.prog.varsNamed 6))=true:=by kernel_rfl
theorem MN:((Rows.wholeGraceRow.maps==(Tryz.f6.params.toList++Rows.wholeGraceSpec.plain.varTypes VS).any (Tryz.prog.mapsRec ·)))=true:=by kernel_rfl
theorem MO:((Rows.wholeGraceRow.ifaces==(Tryz.f6.params.toList++Rows.wholeGraceSpec.plain.varTypes VS).any (Tryz.prog.ifacesRec ·)))=true:=by kernel_rfl
theorem MP:((Rows.wholeGraceRow.mapsOut==Tryz.prog.mapsAmong Tryz.f6.resultTypes.toList))=true:=by kernel_rfl
theorem MQ:((Rows.wholeGraceRow.loops==(Tryz.f6.params.toList++Rows.wholeGraceSpec.plain.varTypes VS).any (Tryz.prog.loopsFrom ·)))=true:=by kernel_rfl
theorem MR:((Rows.wholeGraceRow.wideKeys==(Tryz.f6.params.toList++Rows.wholeGraceSpec.plain.varTypes VS++Tryz.f6.resultTypes.toList).any (Tryz.prog.wideKeysFrom ·)))=true:=by kernel_rfl
theorem MS:(Rows.wholeGraceSpec.vars.all (Tryz.prog.varReadable ·))=true:=by kernel_rfl
theorem MT:(Tryz.f6.resultTypes.all (λt=>Tryz.prog.readableRec t&&decide (t<Tryz.prog.types.size)))=true:=by kernel_rfl
theorem MV:((Rows.wholeGraceRow.ifacesOut==Tryz.f6.resultTypes.toList.any (Tryz.prog.ifacesRec ·)))=true:=by kernel_rfl
theorem MW:((Rows.wholeGraceRow.loopsOut==Tryz.f6.resultTypes.toList.any (Tryz.prog.loopsFrom ·)))=true:=by kernel_rfl
theorem MX:((Rows.wholeGraceRow.plainKeys==Tryz.prog.plainKeys))=true:=by kernel_rfl
theorem MY:(Rows.wholeGraceRow.shortTexts.isNone)=true:=by kernel_rfl
theorem MZ:(Tryz.prog.stopsHeard)=true:=by kernel_rfl
theorem M0:(Tryz.prog.mayEnter)=true:=by kernel_rfl
theorem M1:((Rows.wholeGraceRow.lifted==Tryz.prog.liftsFinal))=true:=by kernel_rfl
theorem M2:((Tryz.prog.make==some Rows.wholeGraceRow.make))=true:=by kernel_rfl
theorem M3:((Rows.wholeGraceRow.kinds==(if Rows.wholeGraceRow.domain.isEmpty then[]else Tryz.f6.params.toList.map λt=>match Tryz.prog.underlying t with|some (.int k)=>some k|_=>none)))=true:=by kernel_rfl
theorem M4:((Rows.wholeGraceRow.pinned==Rows.wholeGraceRow.pinnedBy))=true:=by kernel_rfl
theorem M6:((Rows.wholeGraceRow.veiled==(Tryz.f6.params.toList++Rows.wholeGraceSpec.plain.varTypes VS++Tryz.f6.resultTypes.toList).any (Tryz.prog.veiledRec ·)))=true:=by kernel_rfl
theorem M7:(Rows.wholeGraceRow.veiledFits VS Tryz.f6.params.toList (Tryz.f6.params.toList++Rows.wholeGraceSpec.plain.varTypes VS++Tryz.f6.resultTypes.toList))=true:=by kernel_rfl
theorem RS:joinedFacts VS 6 Tryz.f6 Rows.wholeGraceSpec Rows.wholeGraceRow=true:=(gU (gU (gU (gU (gU (gU (gU (gU (gU (gU (gU (gU (gU (gU (gU (gU (gU (gU (gU (gU (gU (gU (gU (gU (gU (gU (gU (gU (gU (gU (gU MI MJ) MU) M5) M8) M9) Na) Nb) Nc) Nd) MK) ML) MM) MN) MO) MP) MQ) MR) MS) MT) MV) MW) MX) MY) MZ) M0) M1) M2) M3) M4) M6) M7)
end Go.Proofs.YtglgidjhoncphaaGreatDoor
