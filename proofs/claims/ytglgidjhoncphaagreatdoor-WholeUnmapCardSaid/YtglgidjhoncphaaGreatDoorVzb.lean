/- Proved here: contracts of functions of this program, under the premises that each theorem names. -/
import Derived.Test.YtglgidjhoncphaaGreatDoorVza
set_option linter.all false
set_option maxRecDepth 4000
set_option maxHeartbeats 4000000
namespace Go.Proofs.YtglgidjhoncphaaGreatDoor
open Go
set_option maxRecDepth 100000
theorem KV:Rows.wholeUnmapRow.wfByText (OpenSpec.ofChange Rows.wholeUnmapSpec)=true:=by kernel_rfl
theorem KU: Tryz.prog.mainIs = some (true, "2656b22e84306cca343b9ea50bd573a91fa4c338bee4ae38097b1b2b8f3ddc3f".toList) := by kernel_rfl
theorem KT:false=Tryz.prog.looks []:=by kernel_rfl
theorem KR:([23,24,5,4]|>.all λu=>!Tryz.prog.wantsStandIn u)=true:=by kernel_rfl
theorem KS:false=Rows.wholeUnmapRow.goesBy Tryz.prog:=by kernel_rfl
end Go.Proofs.YtglgidjhoncphaaGreatDoor
