/- Proved here: contracts, each under its own premises. -/
import Derived.Test.YtglgidjhoncphaaGreatDoorGj
set_option linter.all false
set_option maxRecDepth 4000
set_option maxHeartbeats 4000000
namespace Go.Proofs.YtglgidjhoncphaaGreatDoor
open Go
set_option maxRecDepth 100000
theorem KX:Rows.wholeGraceRow.wfByText (OpenSpec.ofChange Rows.wholeGraceSpec)=true:=by kernel_rfl
theorem KW: Tryz.prog.mainIs = some (true, "2656b22e84306cca343b9ea50bd573a91fa4c338bee4ae38097b1b2b8f3ddc3f".toList) := by kernel_rfl
theorem KV:false=Tryz.prog.looks []:=by kernel_rfl
theorem KT:([23,24]|>.all λu=>!Tryz.prog.wantsStandIn u)=true:=by kernel_rfl
theorem KU:false=Rows.wholeGraceRow.goesBy Tryz.prog:=by kernel_rfl
end Go.Proofs.YtglgidjhoncphaaGreatDoor
