/- Proved here: contracts, each under its own premises. -/
import Derived.Test.YtglgidjhoncphaaGreatDoorTie
import Derived.Test.YtglgidjhoncphaaGreatDoorCards
import Derived.SevenTiedAt
import Derived.ProofKit
set_option linter.all false
set_option maxRecDepth 4000
set_option maxHeartbeats 4000000
open Go.Proofs.Tryz renaming prog->VT
namespace Go.Proofs.YtglgidjhoncphaaGreatDoor
open Go
set_option maxRecDepth 100000
theorem g8{a b:Bool}(h:a=true)(k:b=true):(a&&b)=true:=by rw[h,k];rfl
theorem MH:(Rows.wholeTablesRow.wf (OpenSpec.ofChange Rows.wholeTablesSpec))=true:=by kernel_rfl
theorem MI:(laidOutB VT)=true:=by kernel_rfl
theorem MT:(mapsRowed VT)=true:=by kernel_rfl
theorem M4:(Tryz.f5.params.all (Tryz.prog.readableRec ·))=true:=by kernel_rfl
theorem M7:(namedTie VT Rows.wholeTablesRow.named Rows.wholeTablesSpec.vars)=true:=by kernel_rfl
theorem M8:((Rows.wholeTablesRow.stops==[]))=true:=by kernel_rfl
theorem M9:((Tryz.prog.stops==[]))=true:=by kernel_rfl
theorem Na:((Rows.wholeTablesRow.knobs==[]))=true:=by kernel_rfl
theorem Nb:((Tryz.prog.stopKnobs==[]))=true:=by kernel_rfl
theorem Nc:((Rows.wholeTablesRow.inPlace==Tryz.prog.inPlace 5))=true:=by kernel_rfl
theorem MJ:((Rows.wholeTablesRow.unfollowed==Tryz.prog.unfollowed 5))=true:=by kernel_rfl
theorem MK:((Rows.wholeTablesRow.recurses==Tryz.prog.recurses 5))=true:=by kernel_rfl
theorem ML:((Rows.wholeTablesRow.named==Tryz.prog.varsNamed 5))=true:=by kernel_rfl
theorem MM:((Rows.wholeTablesRow.maps==(Tryz.f5.params.toList++Rows.wholeTablesSpec.plain.varTypes VT).any (Tryz.prog.mapsRec ·)))=true:=by kernel_rfl
theorem MN:((Rows.wholeTablesRow.ifaces==(Tryz.f5.params.toList++Rows.wholeTablesSpec.plain.varTypes VT).any (Tryz.prog.ifacesRec ·)))=true:=by kernel_rfl
theorem MO:((Rows.wholeTablesRow.mapsOut==Tryz.prog.mapsAmong Tryz.f5.resultTypes.toList))=true:=by kernel_rfl
theorem MP:((Rows.wholeTablesRow.loops==(Tryz.f5.params.toList++Rows.wholeTablesSpec.plain.varTypes VT).any (Tryz.prog.loopsFrom ·)))=true:=by kernel_rfl
theorem MQ:((Rows.wholeTablesRow.wideKeys==(Tryz.f5.params.toList++Rows.wholeTablesSpec.plain.varTypes VT++Tryz.f5.resultTypes.toList).any (Tryz.prog.wideKeysFrom ·)))=true:=by kernel_rfl
theorem MR:(Rows.wholeTablesSpec.vars.all (Tryz.prog.varReadable ·))=true:=by kernel_rfl
theorem MS:(Tryz.f5.resultTypes.all (λt=>Tryz.prog.readableRec t&&decide (t<Tryz.prog.types.size)))=true:=by kernel_rfl
theorem MU:((Rows.wholeTablesRow.ifacesOut==Tryz.f5.resultTypes.toList.any (Tryz.prog.ifacesRec ·)))=true:=by kernel_rfl
theorem MV:((Rows.wholeTablesRow.loopsOut==Tryz.f5.resultTypes.toList.any (Tryz.prog.loopsFrom ·)))=true:=by kernel_rfl
theorem MW:((Rows.wholeTablesRow.plainKeys==Tryz.prog.plainKeys))=true:=by kernel_rfl
theorem MX:(Rows.wholeTablesRow.shortTexts.isNone)=true:=by kernel_rfl
theorem MY:(Tryz.prog.stopsHeard)=true:=by kernel_rfl
theorem MZ:(Tryz.prog.mayEnter)=true:=by kernel_rfl
theorem M0:((Rows.wholeTablesRow.lifted==Tryz.prog.liftsFinal))=true:=by kernel_rfl
theorem M1:((Tryz.prog.make==some Rows.wholeTablesRow.make))=true:=by kernel_rfl
theorem M2:((Rows.wholeTablesRow.kinds==(if Rows.wholeTablesRow.domain.isEmpty then[]else Tryz.f5.params.toList.map λt=>match Tryz.prog.underlying t with|some (.int k)=>some k|_=>none)))=true:=by kernel_rfl
theorem M3:((Rows.wholeTablesRow.pinned==Rows.wholeTablesRow.pinnedBy))=true:=by kernel_rfl
theorem M5:((Rows.wholeTablesRow.veiled==(Tryz.f5.params.toList++Rows.wholeTablesSpec.plain.varTypes VT++Tryz.f5.resultTypes.toList).any (Tryz.prog.veiledRec ·)))=true:=by kernel_rfl
theorem M6:(Rows.wholeTablesRow.veiledFits VT Tryz.f5.params.toList (Tryz.f5.params.toList++Rows.wholeTablesSpec.plain.varTypes VT++Tryz.f5.resultTypes.toList))=true:=by kernel_rfl
theorem RS:joinedFacts VT 5 Tryz.f5 Rows.wholeTablesSpec Rows.wholeTablesRow=true:=(g8 (g8 (g8 (g8 (g8 (g8 (g8 (g8 (g8 (g8 (g8 (g8 (g8 (g8 (g8 (g8 (g8 (g8 (g8 (g8 (g8 (g8 (g8 (g8 (g8 (g8 (g8 (g8 (g8 (g8 (g8 MH MI) MT) M4) M7) M8) M9) Na) Nb) Nc) MJ) MK) ML) MM) MN) MO) MP) MQ) MR) MS) MU) MV) MW) MX) MY) MZ) M0) M1) M2) M3) M5) M6)
end Go.Proofs.YtglgidjhoncphaaGreatDoor
