/- Proved here: contracts of functions of this program, under the premises that each theorem names. -/
import Derived.Test.YtglgidjhoncphaaGreatDoorTie
import Derived.Test.YtglgidjhoncphaaGreatDoorCards
import Derived.SevenTiedAt
import Derived.Test.YtglgidjhoncphaaGreatDoorVz
set_option linter.all false
set_option maxRecDepth 4000
set_option maxHeartbeats 4000000
open Go.Proofs.Tryz renaming prog->Vv
namespace Go.Proofs.YtglgidjhoncphaaGreatDoor
open Go
set_option maxRecDepth 100000
theorem gX{a b:Bool}(h:a=true)(k:b=true):(a&&b)=true:=by rw[h,k];rfl
theorem ME:(Rows.wholeUnmapRow.wf (OpenSpec.ofChange Rows.wholeUnmapSpec))=true:=by kernel_rfl
theorem MF:(laidOutB Vv)=true:=by kernel_rfl
theorem MQ:(mapsRowed Vv)=true:=by kernel_rfl
theorem M1:(Tryz.f4.params.all (Tryz.prog.readableRec ·))=true:=by kernel_rfl
theorem M4:(namedTie Vv Rows.wholeUnmapRow.named Rows.wholeUnmapSpec.vars)=true:=by kernel_rfl
theorem M5:((Rows.wholeUnmapRow.stops==[]))=true:=by kernel_rfl
theorem M6:((Tryz.prog.stops==[]))=true:=by kernel_rfl
theorem M7:((Rows.wholeUnmapRow.knobs==[]))=true:=by kernel_rfl
theorem M8:((Tryz.prog.stopKnobs==[]))=true:=by kernel_rfl
theorem M9:((Rows.wholeUnmapRow.inPlace==Tryz.prog.inPlace 4))=true:=by kernel_rfl
theorem MG:((Rows.wholeUnmapRow.unfollowed==Tryz.prog.unfollowed 4))=true:=by kernel_rfl
theorem MH:((Rows.wholeUnmapRow.recurses==Tryz.prog.recurses 4))=true:=by kernel_rfl
theorem MI:((Rows.wholeUnmapRow.named==Tryz.prog.varsNamed 4))=true:=by kernel_rfl
theorem MJ:((Rows.wholeUnmapRow.maps==(Tryz.f4.params.toList++Rows.wholeUnmapSpec.plain.varTypes Vv).any (Tryz.prog.mapsRec ·)))=true:=by kernel_rfl
theorem MK:((Rows.wholeUnmapRow.ifaces==(Tryz.f4.params.toList++Rows.wholeUnmapSpec.plain.varTypes Vv).any (Tryz.prog.ifacesRec ·)))=true:=by kernel_rfl
theorem ML:((Rows.wholeUnmapRow.mapsOut==Tryz.prog.mapsAmong Tryz.f4.resultTypes.toList))=true:=by kernel_rfl
theorem MM:((Rows.wholeUnmapRow.loops==(Tryz.f4.params.toList++Rows.wholeUnmapSpec.plain.varTypes Vv).any (Tryz.prog.loopsFrom ·)))=true:=by kernel_rfl
theorem MN:((Rows.wholeUnmapRow.wideKeys==(Tryz.f4.params.toList++Rows.wholeUnmapSpec.plain.varTypes Vv++Tryz.f4.resultTypes.toList).any (Tryz.prog.wideKeysFrom ·)))=true:=by kernel_rfl
theorem MO:(Rows.wholeUnmapSpec.vars.all (Tryz.prog.varReadable ·))=true:=by kernel_rfl
theorem MP:(Tryz.f4.resultTypes.all (λt=>Tryz.prog.readableRec t&&decide (t<Tryz.prog.types.size)))=true:=by kernel_rfl
theorem MR:((Rows.wholeUnmapRow.ifacesOut==Tryz.f4.resultTypes.toList.any (Tryz.prog.ifacesRec ·)))=true:=by kernel_rfl
theorem MS:((Rows.wholeUnmapRow.loopsOut==Tryz.f4.resultTypes.toList.any (Tryz.prog.loopsFrom ·)))=true:=by kernel_rfl
theorem MT:((Rows.wholeUnmapRow.plainKeys==Tryz.prog.plainKeys))=true:=by kernel_rfl
theorem MU:(Rows.wholeUnmapRow.shortTexts.isNone)=true:=by kernel_rfl
theorem MV:(Tryz.prog.stopsHeard)=true:=by kernel_rfl
theorem MW:(Tryz.prog.mayEnter)=true:=by kernel_rfl
theorem MX:((Rows.wholeUnmapRow.lifted==Tryz.prog.liftsFinal))=true:=by kernel_rfl
theorem MY:((Tryz.prog.make==some Rows.wholeUnmapRow.make))=true:=by kernel_rfl
theorem MZ:((Rows.wholeUnmapRow.kinds==(if Rows.wholeUnmapRow.domain.isEmpty then[]else Tryz.f4.params.toList.map λt=>match Tryz.prog.underlying t with|some (.int k)=>some k|_=>none)))=true:=by kernel_rfl
theorem M0:((Rows.wholeUnmapRow.pinned==Rows.wholeUnmapRow.pinnedBy))=true:=by kernel_rfl
theorem M2:((Rows.wholeUnmapRow.veiled==(Tryz.f4.params.toList++Rows.wholeUnmapSpec.plain.varTypes Vv++Tryz.f4.resultTypes.toList).any (Tryz.prog.veiledRec ·)))=true:=by kernel_rfl
theorem M3:(Rows.wholeUnmapRow.veiledFits Vv Tryz.f4.params.toList (Tryz.f4.params.toList++Rows.wholeUnmapSpec.plain.varTypes Vv++Tryz.f4.resultTypes.toList))=true:=by kernel_rfl
theorem RC:joinedFacts Vv 4 Tryz.f4 Rows.wholeUnmapSpec Rows.wholeUnmapRow=true:=(gX (gX (gX (gX (gX (gX (gX (gX (gX (gX (gX (gX (gX (gX (gX (gX (gX (gX (gX (gX (gX (gX (gX (gX (gX (gX (gX (gX (gX (gX (gX ME MF) MQ) M1) M4) M5) M6) M7) M8) M9) MG) MH) MI) MJ) MK) ML) MM) MN) MO) MP) MR) MS) MT) MU) MV) MW) MX) MY) MZ) M0) M2) M3)
end Go.Proofs.YtglgidjhoncphaaGreatDoor
