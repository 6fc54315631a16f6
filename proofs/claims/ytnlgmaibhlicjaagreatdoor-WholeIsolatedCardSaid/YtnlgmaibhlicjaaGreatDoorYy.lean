/- Proved here: contracts of functions of this program, under the premises that each theorem names. -/
import Derived.Test.YtnlgmaibhlicjaaGreatDoorTie
import Derived.Test.YtnlgmaibhlicjaaGreatDoorCards
import Derived.SevenTiedAt
import Derived.Test.YtnlgmaibhlicjaaGreatDoorYx
set_option maxRecDepth 4000
namespace Go.Proofs.YtnlgmaibhlicjaaGreatDoor
open Go
set_option maxRecDepth 100000
theorem and2 {a b : Bool} (h : a = true) (k : b = true) : (a && b) = true := by rw [h, k]; rfl
theorem fk0 : (Rows.wholeIsolatedRow.wf (OpenSpec.ofChange Rows.wholeIsolatedSpec)) = true := by kernel_rfl
theorem fk1 : (laidOutB Tryz.prog) = true := by kernel_rfl
theorem fk2 : (mapsRowed Tryz.prog) = true := by kernel_rfl
theorem fk3 : (Tryz.f3.params.all (Tryz.prog.readableRec ·)) = true := by kernel_rfl
theorem fk4 : (namedTie Tryz.prog Rows.wholeIsolatedRow.named Rows.wholeIsolatedSpec.vars) = true := by kernel_rfl
theorem fk5 : ((Rows.wholeIsolatedRow.stops == [])) = true := by kernel_rfl
theorem fk6 : ((Tryz.prog.stops == [])) = true := by kernel_rfl
theorem fk7 : ((Rows.wholeIsolatedRow.knobs == [])) = true := by kernel_rfl
theorem fk8 : ((Tryz.prog.stopKnobs == [])) = true := by kernel_rfl
theorem fk9 : ((Rows.wholeIsolatedRow.inPlace == Tryz.prog.inPlace 3)) = true := by kernel_rfl
theorem fk10 : ((Rows.wholeIsolatedRow.unfollowed == Tryz.prog.unfollowed 3)) = true := by kernel_rfl
theorem fk11 : ((Rows.wholeIsolatedRow.recurses == Tryz.prog.recurses 3)) = true := by kernel_rfl
theorem fk12 : ((Rows.wholeIsolatedRow.named == Tryz.prog.varsNamed 3)) = true := by kernel_rfl
theorem fk13 : ((Rows.wholeIsolatedRow.maps == (Tryz.f3.params.toList ++ Rows.wholeIsolatedSpec.plain.varTypes Tryz.prog).any (Tryz.prog.mapsRec ·))) = true := by kernel_rfl
theorem fk14 : ((Rows.wholeIsolatedRow.ifaces == (Tryz.f3.params.toList ++ Rows.wholeIsolatedSpec.plain.varTypes Tryz.prog).any (Tryz.prog.ifacesRec ·))) = true := by kernel_rfl
theorem fk15 : ((Rows.wholeIsolatedRow.mapsOut == Tryz.prog.mapsAmong Tryz.f3.resultTypes.toList)) = true := by kernel_rfl
theorem fk16 : ((Rows.wholeIsolatedRow.loops == (Tryz.f3.params.toList ++ Rows.wholeIsolatedSpec.plain.varTypes Tryz.prog).any (Tryz.prog.loopsFrom ·))) = true := by kernel_rfl
theorem fk17 : ((Rows.wholeIsolatedRow.wideKeys == (Tryz.f3.params.toList ++ Rows.wholeIsolatedSpec.plain.varTypes Tryz.prog ++ Tryz.f3.resultTypes.toList).any (Tryz.prog.wideKeysFrom ·))) = true := by kernel_rfl
theorem fk18 : (Rows.wholeIsolatedSpec.vars.all (Tryz.prog.varReadable ·)) = true := by kernel_rfl
theorem fk19 : (Tryz.f3.resultTypes.all (fun t => Tryz.prog.readableRec t && decide (t < Tryz.prog.types.size))) = true := by kernel_rfl
theorem fk20 : ((Rows.wholeIsolatedRow.ifacesOut == Tryz.f3.resultTypes.toList.any (Tryz.prog.ifacesRec ·))) = true := by kernel_rfl
theorem fk21 : ((Rows.wholeIsolatedRow.loopsOut == Tryz.f3.resultTypes.toList.any (Tryz.prog.loopsFrom ·))) = true := by kernel_rfl
theorem fk22 : ((Rows.wholeIsolatedRow.plainKeys == Tryz.prog.plainKeys)) = true := by kernel_rfl
theorem fk23 : (Rows.wholeIsolatedRow.shortTexts.isNone) = true := by kernel_rfl
theorem fk24 : (Tryz.prog.stopsHeard) = true := by kernel_rfl
theorem fk25 : (Tryz.prog.mayEnter) = true := by kernel_rfl
theorem fk26 : ((Rows.wholeIsolatedRow.lifted == Tryz.prog.liftsFinal)) = true := by kernel_rfl
theorem fk27 : ((Tryz.prog.make == some Rows.wholeIsolatedRow.make)) = true := by kernel_rfl
theorem fk28 : ((Rows.wholeIsolatedRow.kinds == (if Rows.wholeIsolatedRow.domain.isEmpty then [] else Tryz.f3.params.toList.map fun t => match Tryz.prog.underlying t with | some (.int k) => some k | _ => none))) = true := by kernel_rfl
theorem fk29 : ((Rows.wholeIsolatedRow.pinned == Rows.wholeIsolatedRow.pinnedBy)) = true := by kernel_rfl
theorem fk30 : ((Rows.wholeIsolatedRow.veiled == (Tryz.f3.params.toList ++ Rows.wholeIsolatedSpec.plain.varTypes Tryz.prog ++ Tryz.f3.resultTypes.toList).any (Tryz.prog.veiledRec ·))) = true := by kernel_rfl
theorem fk31 : (Rows.wholeIsolatedRow.veiledFits Tryz.prog Tryz.f3.params.toList (Tryz.f3.params.toList ++ Rows.wholeIsolatedSpec.plain.varTypes Tryz.prog ++ Tryz.f3.resultTypes.toList)) = true := by kernel_rfl
theorem isoFacts : joinedFacts Tryz.prog 3 Tryz.f3 Rows.wholeIsolatedSpec Rows.wholeIsolatedRow = true := (and2 (and2 (and2 (and2 (and2 (and2 (and2 (and2 (and2 (and2 (and2 (and2 (and2 (and2 (and2 (and2 (and2 (and2 (and2 (and2 (and2 (and2 (and2 (and2 (and2 (and2 (and2 (and2 (and2 (and2 (and2 fk0 fk1) fk2) fk3) fk4) fk5) fk6) fk7) fk8) fk9) fk10) fk11) fk12) fk13) fk14) fk15) fk16) fk17) fk18) fk19) fk20) fk21) fk22) fk23) fk24) fk25) fk26) fk27) fk28) fk29) fk30) fk31)
end Go.Proofs.YtnlgmaibhlicjaaGreatDoor
