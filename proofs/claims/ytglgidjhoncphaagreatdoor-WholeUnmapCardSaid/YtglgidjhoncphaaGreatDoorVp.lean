/- Proved here: contracts of functions of this program, under the premises that each theorem names. -/
import Derived.Shelf.Lays
import Derived.Test.YtglgidjhoncphaaGreatDoorVo
set_option linter.all false
set_option maxRecDepth 4000
set_option maxHeartbeats 4000000
namespace Go.Proofs.YtglgidjhoncphaaGreatDoor
open Go Go.Shelf
def Pf:Go.Shelf.Ren:=⟨fun|189=>148|125=>200|257=>199|128=>252|129=>253|294=>243|295=>244|296=>245|297=>246|298=>247|299=>248|216=>249|300=>250|301=>251|328=>297|329=>298|330=>299|331=>300|332=>301|215=>289|343=>342|n=>n,fun|28=>90|3=>3|46=>94|0=>0|51=>32|53=>47|4=>4|183=>376|182=>375|131=>289|5=>5|9=>9|218=>416|222=>419|228=>441|229=>442|n=>n,fun|n=>n⟩
theorem Pe:Go.Proofs.Lays.n189 Tryz.prog Pf:={
 mixed:=by kernel_rfl
 f125:=Tryz.func200.trans (congrArg some aM)
 f128:=Tryz.func252.trans (congrArg some aM)
 f129:=Tryz.func253.trans (congrArg some aM)
 f189:=Tryz.func148.trans (congrArg some aM)
 f215:=Tryz.func289.trans (congrArg some aM)
 f216:=Tryz.func249.trans (congrArg some aM)
 f257:=Tryz.func199.trans (congrArg some aM)
 f294:=Tryz.func243.trans (congrArg some aM)
 f295:=Tryz.func244.trans (congrArg some aM)
 f296:=Tryz.func245.trans (congrArg some aM)
 f297:=Tryz.func246.trans (congrArg some aM)
 f298:=Tryz.func247.trans (congrArg some aM)
 f299:=Tryz.func248.trans (congrArg some aM)
 f300:=Tryz.func250.trans (congrArg some aM)
 f301:=Tryz.func251.trans (congrArg some aM)
 f328:=Tryz.func297.trans (congrArg some aM)
 f329:=Tryz.func298.trans (congrArg some aM)
 f330:=Tryz.func299.trans (congrArg some aM)
 f331:=Tryz.func300.trans (congrArg some aM)
 f332:=Tryz.func301.trans (congrArg some aM)
 f343:=Tryz.func342.trans (congrArg some aM)
 t0:=Tryz.underlying0
 a0:=Tryz.isAgg0
 z0:=Tryz.sizeOf0
 v0:=Tryz.zeroValue0
 t3:=Tryz.underlying3
 a3:=Tryz.isAgg3
 z3:=Tryz.sizeOf3
 v3:=Tryz.zeroValue3
 t4:=Tryz.underlying4
 a4:=Tryz.isAgg4
 z4:=Tryz.sizeOf4
 v4:=Tryz.zeroValue4
 t5:=Tryz.underlying5
 a5:=Tryz.isAgg5
 z5:=Tryz.sizeOf5
 v5:=Tryz.zeroValue5
 t9:=Tryz.underlying9
 a9:=Tryz.isAgg9
 z9:=Tryz.sizeOf9
 v9:=Tryz.zeroValue9
 t28:=Tryz.underlying90
 a28:=Tryz.isAgg90
 z28:=Tryz.sizeOf90
 v28:=Tryz.zeroValue90
 t46:=Tryz.underlying94
 a46:=Tryz.isAgg94
 z46:=Tryz.sizeOf94
 v46:=Tryz.zeroValue94
 t51:=Tryz.underlying32
 a51:=Tryz.isAgg32
 z51:=Tryz.sizeOf32
 v51:=Tryz.zeroValue32
 t53:=Tryz.underlying47
 a53:=Tryz.isAgg47
 z53:=Tryz.sizeOf47
 v53:=Tryz.zeroValue47
 t131:=Tryz.underlying289
 a131:=Tryz.isAgg289
 z131:=Tryz.sizeOf289
 v131:=Tryz.zeroValue289
 t182:=Tryz.underlying375
 a182:=Tryz.isAgg375
 z182:=Tryz.sizeOf375
 v182:=Tryz.zeroValue375
 t183:=Tryz.underlying376
 a183:=Tryz.isAgg376
 z183:=Tryz.sizeOf376
 v183:=Tryz.zeroValue376
 t218:=Tryz.underlying416
 a218:=Tryz.isAgg416
 z218:=Tryz.sizeOf416
 v218:=Tryz.zeroValue416
 t222:=Tryz.underlying419
 a222:=Tryz.isAgg419
 z222:=Tryz.sizeOf419
 v222:=Tryz.zeroValue419
 t228:=Tryz.underlying441
 a228:=Tryz.isAgg441
 z228:=Tryz.sizeOf441
 v228:=Tryz.zeroValue441
 t229:=Tryz.underlying442
 a229:=Tryz.isAgg442
 z229:=Tryz.sizeOf442
 v229:=Tryz.zeroValue442}
end Go.Proofs.YtglgidjhoncphaaGreatDoor
