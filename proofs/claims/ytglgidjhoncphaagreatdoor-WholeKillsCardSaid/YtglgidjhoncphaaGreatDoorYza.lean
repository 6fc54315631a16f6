/- Proved here: contracts of functions of this program, under the premises that each theorem names. -/
import Derived.Test.YtglgidjhoncphaaGreatDoorTie
import Derived.Test.YtglgidjhoncphaaGreatDoorCards
import Derived.SevenTiedAt
import Derived.Test.YtglgidjhoncphaaGreatDoorYz
set_option linter.all false
set_option maxRecDepth 4000
set_option maxHeartbeats 4000000
open Go.Proofs.Tryz renaming prog->U3
namespace Go.Proofs.YtglgidjhoncphaaGreatDoor
open Go
set_option maxRecDepth 100000
theorem gQ{a b:Bool}(h:a=true)(k:b=true):(a&&b)=true:=by rw[h,k];rfl
theorem L8:(Rows.wholeKillsRow.wf (OpenSpec.ofChange Rows.wholeKillsSpec))=true:=by kernel_rfl
theorem L9:(laidOutB U3)=true:=by kernel_rfl
theorem Mk:(mapsRowed U3)=true:=by kernel_rfl
theorem Mv:(Tryz.f3.params.all (Tryz.prog.readableRec ·))=true:=by kernel_rfl
theorem My:(namedTie U3 Rows.wholeKillsRow.named Rows.wholeKillsSpec.vars)=true:=by kernel_rfl
theorem Mz:((Rows.wholeKillsRow.stops==[]))=true:=by kernel_rfl
theorem MA:((Tryz.prog.stops==[]))=true:=by kernel_rfl
theorem MB:((Rows.wholeKillsRow.knobs==[]))=true:=by kernel_rfl
theorem MC:((Tryz.prog.stopKnobs==[]))=true:=by kernel_rfl
theorem MD:((Rows.wholeKillsRow.inPlace==Tryz.prog.inPlace 3))=true:=by kernel_rfl
theorem Ma:((Rows.wholeKillsRow.unfollowed==Tryz.prog.unfollowed 3))=true:=by kernel_rfl
theorem Mb:((Rows.wholeKillsRow.recurses==Tryz.prog.recurses 3))=true:=by kernel_rfl
theorem Mc:((Rows.wholeKillsRow.named==Tryz.prog.varsNamed 3))=true:=by kernel_rfl
theorem Md:((Rows.wholeKillsRow.maps==(Tryz.f3.params.toList++Rows.wholeKillsSpec.plain.varTypes U3).any (Tryz.prog.mapsRec ·)))=true:=by kernel_rfl
theorem Me:((Rows.wholeKillsRow.ifaces==(Tryz.f3.params.toList++Rows.wholeKillsSpec.plain.varTypes U3).any (Tryz.prog.ifacesRec ·)))=true:=by kernel_rfl
theorem Mf:((Rows.wholeKillsRow.mapsOut==Tryz.prog.mapsAmong Tryz.f3.resultTypes.toList))=true:=by kernel_rfl
theorem Mg:((Rows.wholeKillsRow.loops==(Tryz.f3.params.toList++Rows.wholeKillsSpec.plain.varTypes U3).any (Tryz.prog.loopsFrom ·)))=true:=by kernel_rfl
theorem Mh:((Rows.wholeKillsRow.wideKeys==(Tryz.f3.params.toList++Rows.wholeKillsSpec.plain.varTypes U3++Tryz.f3.resultTypes.toList).any (Tryz.prog.wideKeysFrom ·)))=true:=by kernel_rfl
theorem Mi:(Rows.wholeKillsSpec.vars.all (Tryz.prog.varReadable ·))=true:=by kernel_rfl
theorem Mj:(Tryz.f3.resultTypes.all (λt=>Tryz.prog.readableRec t&&decide (t<Tryz.prog.types.size)))=true:=by kernel_rfl
theorem Ml:((Rows.wholeKillsRow.ifacesOut==Tryz.f3.resultTypes.toList.any (Tryz.prog.ifacesRec ·)))=true:=by kernel_rfl
theorem Mm:((Rows.wholeKillsRow.loopsOut==Tryz.f3.resultTypes.toList.any (Tryz.prog.loopsFrom ·)))=true:=by kernel_rfl
theorem Mn:((Rows.wholeKillsRow.plainKeys==Tryz.prog.plainKeys))=true:=by kernel_rfl
theorem Mo:(Rows.wholeKillsRow.shortTexts.isNone)=true:=by kernel_rfl
theorem Mp:(Tryz.prog.stopsHeard)=true:=by kernel_rfl
theorem Mq:(Tryz.prog.mayEnter)=true:=by kernel_rfl
theorem Mr:((Rows.wholeKillsRow.lifted==Tryz.prog.liftsFinal))=true:=by kernel_rfl
theorem Ms:((Tryz.prog.make==some Rows.wholeKillsRow.make))=true:=by kernel_rfl
theorem Mt:((Rows.wholeKillsRow.kinds==(if Rows.wholeKillsRow.domain.isEmpty then[]else Tryz.f3.params.toList.map λt=>match Tryz.prog.underlying t with|some (.int k)=>some k|_=>none)))=true:=by kernel_rfl
theorem Mu:((Rows.wholeKillsRow.pinned==Rows.wholeKillsRow.pinnedBy))=true:=by kernel_rfl
theorem Mw:((Rows.wholeKillsRow.veiled==(Tryz.f3.params.toList++Rows.wholeKillsSpec.plain.varTypes U3++Tryz.f3.resultTypes.toList).any (Tryz.prog.veiledRec ·)))=true:=by kernel_rfl
theorem Mx:(Rows.wholeKillsRow.veiledFits U3 Tryz.f3.params.toList (Tryz.f3.params.toList++Rows.wholeKillsSpec.plain.varTypes U3++Tryz.f3.resultTypes.toList))=true:=by kernel_rfl
theorem Q9:joinedFacts U3 3 Tryz.f3 Rows.wholeKillsSpec Rows.wholeKillsRow=true:=(gQ (gQ (gQ (gQ (gQ (gQ (gQ (gQ (gQ (gQ (gQ (gQ (gQ (gQ (gQ (gQ (gQ (gQ (gQ (gQ (gQ (gQ (gQ (gQ (gQ (gQ (gQ (gQ (gQ (gQ (gQ L8 L9) Mk) Mv) My) Mz) MA) MB) MC) MD) Ma) Mb) Mc) Md) Me) Mf) Mg) Mh) Mi) Mj) Ml) Mm) Mn) Mo) Mp) Mq) Mr) Ms) Mt) Mu) Mw) Mx)
end Go.Proofs.YtglgidjhoncphaaGreatDoor
