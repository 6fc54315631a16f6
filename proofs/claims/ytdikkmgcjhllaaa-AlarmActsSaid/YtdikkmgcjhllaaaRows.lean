/-
  No cell of these rows narrows 'for every input' (looked for: loops, veiled, ifaces, maps, wideKeys, modest, calm, conditions, laid).
  DERIVED. THE GIVEN ROWS OF THIS SEAT. 5 by the template 'for every input the law returns true; each argument reads behind the call as it read before'; 0 by the template 'total and deterministic' (their statements: YtdikkmgcjhllaaaTotals.lean).
  GIVEN WITH THE SEED: the statements are not yours to turn. If you find one false, say at which input.
  Laid BY PROGRAM, IN A SANDBOX (cutbox-rows.mjs): the forced cells as the released guide's own fill.sh prints them over the translation 0b25a98c01b4f195… (all of the seat's roots in one cut). By AI agents, Wed Nov 11 2026. No macro, syntax, notation, axiom, sorry.
-/
import Derived.Test.YtdikkmgcjhllaaaChecked
import GoSem.Claim
import GoSem.ClaimJoined
import GoSem.ClaimMapViews
import Derived.JoinedTies
import Derived.KernelRfl
namespace Go.Proofs.Ytdikkmgcjhllaaa
/- THE CELL 'sum', in the pinned program and in every row, IS THE sha256 OF THE DUMP (.gsa) THAT YtdikkmgcjhllaaaProg.lean LOADS. Nothing in Lean hashes anything: it is a label: what it is worth is what the hold of that sum in a sandbox is worth. -/
noncomputable def Try.pinned : Pinned := { name := "ytdikkmgcjhllaaa", sum := "0b25a98c01b4f1959f55597e3d31098be3f3659ca047f49475d6be2b78a604ce", checked := Try.checked }
namespace Rows
def none {H : Type} : Left H := { results := [], args := [] }

/-- 'quartermasterlaw12.AlarmClears': WHATEVER THE INPUT: true; the input reads as it did. -/
def alarmClearsSpec : ChangeSpec := { name := "alarmClears", fn := fun _ => fun
  | [d1, d2] => { results := [.lit (.bool true)], args := [d1, d2] }
  | _ => none }
def alarmClearsRow : OpenClaim := { program := "ytdikkmgcjhllaaa", sum := "0b25a98c01b4f1959f55597e3d31098be3f3659ca047f49475d6be2b78a604ce", func := "quartermaster/quartermasterlaw12.AlarmClears", spec := "alarmClears", apart := false }
def AlarmClearsSaid : Prop := alarmClearsRow.holds Try.pinned (OpenSpec.ofChange alarmClearsSpec)

/-- ITS FALSE NEIGHBOUR: 'it returns false'. Refute it at one input. -/
def alarmClearsWrong : ChangeSpec := { name := "alarmClears", fn := fun _ => fun
  | [d1, d2] => { results := [.lit (.bool false)], args := [d1, d2] }
  | _ => none }
def AlarmClearsWrongFalsely : Prop := alarmClearsRow.holds Try.pinned (OpenSpec.ofChange alarmClearsWrong)

/-- 'quartermasterlaw12.AlarmNext': WHATEVER THE INPUT: true; the input reads as it did. -/
def alarmNextSpec : ChangeSpec := { name := "alarmNext", fn := fun _ => fun
  | [d1, d2, d3] => { results := [.lit (.bool true)], args := [d1, d2, d3] }
  | _ => none }
def alarmNextRow : OpenClaim := { program := "ytdikkmgcjhllaaa", sum := "0b25a98c01b4f1959f55597e3d31098be3f3659ca047f49475d6be2b78a604ce", func := "quartermaster/quartermasterlaw12.AlarmNext", spec := "alarmNext", apart := false }
def AlarmNextSaid : Prop := alarmNextRow.holds Try.pinned (OpenSpec.ofChange alarmNextSpec)

/-- ITS FALSE NEIGHBOUR: 'it returns false'. Refute it at one input. -/
def alarmNextWrong : ChangeSpec := { name := "alarmNext", fn := fun _ => fun
  | [d1, d2, d3] => { results := [.lit (.bool false)], args := [d1, d2, d3] }
  | _ => none }
def AlarmNextWrongFalsely : Prop := alarmNextRow.holds Try.pinned (OpenSpec.ofChange alarmNextWrong)

/-- 'quartermasterlaw12.AlarmAgain': WHATEVER THE INPUT: true; the input reads as it did. -/
def alarmAgainSpec : ChangeSpec := { name := "alarmAgain", fn := fun _ => fun
  | [d1, d2, d3] => { results := [.lit (.bool true)], args := [d1, d2, d3] }
  | _ => none }
def alarmAgainRow : OpenClaim := { program := "ytdikkmgcjhllaaa", sum := "0b25a98c01b4f1959f55597e3d31098be3f3659ca047f49475d6be2b78a604ce", func := "quartermaster/quartermasterlaw12.AlarmAgain", spec := "alarmAgain", apart := false }
def AlarmAgainSaid : Prop := alarmAgainRow.holds Try.pinned (OpenSpec.ofChange alarmAgainSpec)

/-- ITS FALSE NEIGHBOUR: 'it returns false'. Refute it at one input. -/
def alarmAgainWrong : ChangeSpec := { name := "alarmAgain", fn := fun _ => fun
  | [d1, d2, d3] => { results := [.lit (.bool false)], args := [d1, d2, d3] }
  | _ => none }
def AlarmAgainWrongFalsely : Prop := alarmAgainRow.holds Try.pinned (OpenSpec.ofChange alarmAgainWrong)

/-- 'quartermasterlaw12.AlarmActs': WHATEVER THE INPUT: true; the input reads as it did. -/
def alarmActsSpec : ChangeSpec := { name := "alarmActs", fn := fun _ => fun
  | [d] => { results := [.lit (.bool true)], args := [d] }
  | _ => none }
def alarmActsRow : OpenClaim := { program := "ytdikkmgcjhllaaa", sum := "0b25a98c01b4f1959f55597e3d31098be3f3659ca047f49475d6be2b78a604ce", func := "quartermaster/quartermasterlaw12.AlarmActs", spec := "alarmActs", apart := false }
def AlarmActsSaid : Prop := alarmActsRow.holds Try.pinned (OpenSpec.ofChange alarmActsSpec)

/-- ITS FALSE NEIGHBOUR: 'it returns false'. Refute it at one input. -/
def alarmActsWrong : ChangeSpec := { name := "alarmActs", fn := fun _ => fun
  | [d] => { results := [.lit (.bool false)], args := [d] }
  | _ => none }
def AlarmActsWrongFalsely : Prop := alarmActsRow.holds Try.pinned (OpenSpec.ofChange alarmActsWrong)

/-- 'quartermasterlaw12.AlarmOnce': WHATEVER THE INPUT: true; the input reads as it did. -/
def alarmOnceSpec : ChangeSpec := { name := "alarmOnce", fn := fun _ => fun
  | [d1, d2] => { results := [.lit (.bool true)], args := [d1, d2] }
  | _ => none }
def alarmOnceRow : OpenClaim := { program := "ytdikkmgcjhllaaa", sum := "0b25a98c01b4f1959f55597e3d31098be3f3659ca047f49475d6be2b78a604ce", func := "quartermaster/quartermasterlaw12.AlarmOnce", spec := "alarmOnce", apart := false }
def AlarmOnceSaid : Prop := alarmOnceRow.holds Try.pinned (OpenSpec.ofChange alarmOnceSpec)

/-- ITS FALSE NEIGHBOUR: 'it returns false'. Refute it at one input. -/
def alarmOnceWrong : ChangeSpec := { name := "alarmOnce", fn := fun _ => fun
  | [d1, d2] => { results := [.lit (.bool false)], args := [d1, d2] }
  | _ => none }
def AlarmOnceWrongFalsely : Prop := alarmOnceRow.holds Try.pinned (OpenSpec.ofChange alarmOnceWrong)

/- THE SECOND FORM. 'bulk': how many values and letters a reading holds, each counted each time it is reached (what is shared counts as often as it is met; a slice's spare places count too). A statement '..UptoSaid' is the law's where the arguments, and the package variables that the reading takes, are together of bulk at most 1048576: NARROWER than '..Said'. Prove '..Said' where nothing that the law and all that it calls make is longer than what came in: it says more and counts as full. Else prove '..UptoSaid'. A law counts once. -/
mutual
def uptoBulk {H : Type} : DataW H → Nat
  | .lit (.string bytes) => bytes.length + 1
  | .lit _ => 1
  | .nil => 1
  | .ptr d => uptoBulk d + 1
  | .slice elems spare => uptoBulkAll elems + uptoBulkAll spare + 1
  | .agg parts => uptoBulkAll parts + 1
  | .iface _ d => uptoBulk d + 1
  | .map entries => uptoBulkEntries entries + 1
  | .held _ => 1
def uptoBulkAll {H : Type} : List (DataW H) → Nat
  | [] => 0
  | d :: r => uptoBulk d + uptoBulkAll r
def uptoBulkEntries {H : Type} : List (Lit × DataW H) → Nat
  | [] => 0
  | x :: r => uptoBulkEntry x + uptoBulkEntries r
def uptoBulkEntry {H : Type} : Lit × DataW H → Nat
  | (.string bytes, d) => bytes.length + uptoBulk d + 1
  | (_, d) => uptoBulk d + 1
 end
def uptoSmall : (H : Type) → List (DataW H) → Bool := fun _ ds => decide (uptoBulkAll ds ≤ 1048576)
def OpenSpec.upto (s : _root_.Go.ChangeSpec) : _root_.Go.OpenSpec := { _root_.Go.OpenSpec.ofChange s with cond := some uptoSmall }

/-- 'quartermasterlaw12.AlarmClears', WHERE WHAT IT READS IS OF BULK AT MOST 1048576: true; the input reads as it did. -/
def alarmClearsUptoRow : OpenClaim := { program := "ytdikkmgcjhllaaa", sum := "0b25a98c01b4f1959f55597e3d31098be3f3659ca047f49475d6be2b78a604ce", func := "quartermaster/quartermasterlaw12.AlarmClears", spec := "alarmClears", apart := false, narrowed := true }
def AlarmClearsUptoSaid : Prop := alarmClearsUptoRow.holds Try.pinned (OpenSpec.upto alarmClearsSpec)

/-- 'quartermasterlaw12.AlarmNext', WHERE WHAT IT READS IS OF BULK AT MOST 1048576: true; the input reads as it did. -/
def alarmNextUptoRow : OpenClaim := { program := "ytdikkmgcjhllaaa", sum := "0b25a98c01b4f1959f55597e3d31098be3f3659ca047f49475d6be2b78a604ce", func := "quartermaster/quartermasterlaw12.AlarmNext", spec := "alarmNext", apart := false, narrowed := true }
def AlarmNextUptoSaid : Prop := alarmNextUptoRow.holds Try.pinned (OpenSpec.upto alarmNextSpec)

/-- 'quartermasterlaw12.AlarmAgain', WHERE WHAT IT READS IS OF BULK AT MOST 1048576: true; the input reads as it did. -/
def alarmAgainUptoRow : OpenClaim := { program := "ytdikkmgcjhllaaa", sum := "0b25a98c01b4f1959f55597e3d31098be3f3659ca047f49475d6be2b78a604ce", func := "quartermaster/quartermasterlaw12.AlarmAgain", spec := "alarmAgain", apart := false, narrowed := true }
def AlarmAgainUptoSaid : Prop := alarmAgainUptoRow.holds Try.pinned (OpenSpec.upto alarmAgainSpec)

/-- 'quartermasterlaw12.AlarmActs', WHERE WHAT IT READS IS OF BULK AT MOST 1048576: true; the input reads as it did. -/
def alarmActsUptoRow : OpenClaim := { program := "ytdikkmgcjhllaaa", sum := "0b25a98c01b4f1959f55597e3d31098be3f3659ca047f49475d6be2b78a604ce", func := "quartermaster/quartermasterlaw12.AlarmActs", spec := "alarmActs", apart := false, narrowed := true }
def AlarmActsUptoSaid : Prop := alarmActsUptoRow.holds Try.pinned (OpenSpec.upto alarmActsSpec)

/-- 'quartermasterlaw12.AlarmOnce', WHERE WHAT IT READS IS OF BULK AT MOST 1048576: true; the input reads as it did. -/
def alarmOnceUptoRow : OpenClaim := { program := "ytdikkmgcjhllaaa", sum := "0b25a98c01b4f1959f55597e3d31098be3f3659ca047f49475d6be2b78a604ce", func := "quartermaster/quartermasterlaw12.AlarmOnce", spec := "alarmOnce", apart := false, narrowed := true }
def AlarmOnceUptoSaid : Prop := alarmOnceUptoRow.holds Try.pinned (OpenSpec.upto alarmOnceSpec)

end Rows
end Go.Proofs.Ytdikkmgcjhllaaa
