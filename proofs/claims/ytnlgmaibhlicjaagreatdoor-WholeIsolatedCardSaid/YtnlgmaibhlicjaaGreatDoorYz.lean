/- Proved here: contracts of functions of this program, under the premises that each theorem names. -/
import Derived.Test.YtnlgmaibhlicjaaGreatDoorYy
set_option maxRecDepth 4000
namespace Go.Proofs.YtnlgmaibhlicjaaGreatDoor
open Go
set_option maxRecDepth 100000
theorem cardW : Rows.wholeIsolatedRow.wfByText (OpenSpec.ofChange Rows.wholeIsolatedSpec) = true := by kernel_rfl
theorem cardM : Tryz.prog.mainIs = some (true, "815e0ae76c554bd145ef1eb116d61d6350a5fec3011c9f860df9c1d7aa61af73".toList) := by kernel_rfl
theorem cardL : false = Tryz.prog.looks [] := by kernel_rfl
theorem cardA : ([22, 22, 23].all fun u => !Tryz.prog.wantsStandIn u) = true := by kernel_rfl
theorem cardG : false = Rows.wholeIsolatedRow.goesBy Tryz.prog := by kernel_rfl
end Go.Proofs.YtnlgmaibhlicjaaGreatDoor
