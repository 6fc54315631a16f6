/-
  No cell of these rows narrows 'for every input' (looked for: loops, veiled, ifaces, maps, wideKeys, modest, calm, conditions, laid).
  DERIVED. THE GIVEN ROWS OF THIS SEAT. 3 by the template 'for every input the law returns true; each argument reads behind the call as it read before'; 0 by the template 'total and deterministic' (their statements: YtdpadbhfhlhnlaaTotals.lean).
  GIVEN WITH THE SEED: the statements are not yours to turn. If you find one false, say at which input.
  Laid BY PROGRAM, IN A SANDBOX (cutbox-rows.mjs): the forced cells as the released guide's own fill.sh prints them over the translation f37fc9b7afed35ac… (all of the seat's roots in one cut). By AI agents, Wed Nov 11 2026. No macro, syntax, notation, axiom, sorry.
-/
import Derived.Test.YtdpadbhfhlhnlaaChecked
import GoSem.Claim
import GoSem.ClaimJoined
import GoSem.ClaimMapViews
import Derived.JoinedTies
import Derived.KernelRfl
namespace Go.Proofs.Ytdpadbhfhlhnlaa
/- THE CELL 'sum', in the pinned program and in every row, IS THE sha256 OF THE DUMP (.gsa) THAT YtdpadbhfhlhnlaaProg.lean LOADS. Nothing in Lean hashes anything: it is a label: what it is worth is what the hold of that sum in a sandbox is worth. -/
noncomputable def Try.pinned : Pinned := { name := "ytdpadbhfhlhnlaa", sum := "f37fc9b7afed35ac100d25aec2ee5e9736f4e99c2a52594520dcdfc041ede7a1", checked := Try.checked }
namespace Rows
def none {H : Type} : Left H := { results := [], args := [] }

/-- 'quartermasterlaw08.GraceActs': WHATEVER THE INPUT: true; the input reads as it did. -/
def graceActsSpec : ChangeSpec := { name := "graceActs", fn := fun _ => fun
  | [d1, d2] => { results := [.lit (.bool true)], args := [d1, d2] }
  | _ => none }
def graceActsRow : OpenClaim := { program := "ytdpadbhfhlhnlaa", sum := "f37fc9b7afed35ac100d25aec2ee5e9736f4e99c2a52594520dcdfc041ede7a1", func := "quartermaster/quartermasterlaw08.GraceActs", spec := "graceActs", unfollowed := true, recurses := true, apart := false }
def GraceActsSaid : Prop := graceActsRow.holds Try.pinned (OpenSpec.ofChange graceActsSpec)

/-- ITS FALSE NEIGHBOUR: 'it returns false'. Refute it at one input. -/
def graceActsWrong : ChangeSpec := { name := "graceActs", fn := fun _ => fun
  | [d1, d2] => { results := [.lit (.bool false)], args := [d1, d2] }
  | _ => none }
def GraceActsWrongFalsely : Prop := graceActsRow.holds Try.pinned (OpenSpec.ofChange graceActsWrong)

/-- 'quartermasterlaw08.GraceOnce': WHATEVER THE INPUT: true; the input reads as it did. -/
def graceOnceSpec : ChangeSpec := { name := "graceOnce", fn := fun _ => fun
  | [d1, d2] => { results := [.lit (.bool true)], args := [d1, d2] }
  | _ => none }
def graceOnceRow : OpenClaim := { program := "ytdpadbhfhlhnlaa", sum := "f37fc9b7afed35ac100d25aec2ee5e9736f4e99c2a52594520dcdfc041ede7a1", func := "quartermaster/quartermasterlaw08.GraceOnce", spec := "graceOnce", unfollowed := true, recurses := true, apart := false }
def GraceOnceSaid : Prop := graceOnceRow.holds Try.pinned (OpenSpec.ofChange graceOnceSpec)

/-- ITS FALSE NEIGHBOUR: 'it returns false'. Refute it at one input. -/
def graceOnceWrong : ChangeSpec := { name := "graceOnce", fn := fun _ => fun
  | [d1, d2] => { results := [.lit (.bool false)], args := [d1, d2] }
  | _ => none }
def GraceOnceWrongFalsely : Prop := graceOnceRow.holds Try.pinned (OpenSpec.ofChange graceOnceWrong)

/-- 'quartermasterlaw08.GraceLeft': WHATEVER THE INPUT: true; the input reads as it did. -/
def graceLeftSpec : ChangeSpec := { name := "graceLeft", fn := fun _ => fun
  | [d1, d2] => { results := [.lit (.bool true)], args := [d1, d2] }
  | _ => none }
def graceLeftRow : OpenClaim := { program := "ytdpadbhfhlhnlaa", sum := "f37fc9b7afed35ac100d25aec2ee5e9736f4e99c2a52594520dcdfc041ede7a1", func := "quartermaster/quartermasterlaw08.GraceLeft", spec := "graceLeft", unfollowed := true, recurses := true, apart := false }
def GraceLeftSaid : Prop := graceLeftRow.holds Try.pinned (OpenSpec.ofChange graceLeftSpec)

/-- ITS FALSE NEIGHBOUR: 'it returns false'. Refute it at one input. -/
def graceLeftWrong : ChangeSpec := { name := "graceLeft", fn := fun _ => fun
  | [d1, d2] => { results := [.lit (.bool false)], args := [d1, d2] }
  | _ => none }
def GraceLeftWrongFalsely : Prop := graceLeftRow.holds Try.pinned (OpenSpec.ofChange graceLeftWrong)

/- THE SECOND FORM. 'bulk': how many values and letters a reading holds, each counted each time it is reached (what is shared counts as often as it is met; a slice's spare places count too). A statement '..UptoSaid' is the law's where the arguments, and the package variables that the reading takes, are together of bulk at most 1048576: NARROWER than '..Said'. Prove '..Said' where nothing that the law and all that it calls make is longer than what came in: it says more and counts as full. Else prove '..UptoSaid'. A law counts once. -/
mutual
def uptoBulk {H : Type} : DataW H → Nat
  | .lit (.string bytes) => bytes.length + 1
  | .lit _ => 1
  | .nil => 1
  | .ptr d => uptoBulk d + 1
  | .slice elems spare => uptoBulkAll elems + uptoBulkAll spare + 1
  | .agg parts => uptoBulkAll parts + 1
  | .iface _ d => uptoBulk d + 1
  | .map entries => uptoBulkEntries entries + 1
  | .held _ => 1
def uptoBulkAll {H : Type} : List (DataW H) → Nat
  | [] => 0
  | d :: r => uptoBulk d + uptoBulkAll r
def uptoBulkEntries {H : Type} : List (Lit × DataW H) → Nat
  | [] => 0
  | x :: r => uptoBulkEntry x + uptoBulkEntries r
def uptoBulkEntry {H : Type} : Lit × DataW H → Nat
  | (.string bytes, d) => bytes.length + uptoBulk d + 1
  | (_, d) => uptoBulk d + 1
 end
def uptoSmall : (H : Type) → List (DataW H) → Bool := fun _ ds => decide (uptoBulkAll ds ≤ 1048576)
def OpenSpec.upto (s : _root_.Go.ChangeSpec) : _root_.Go.OpenSpec := { _root_.Go.OpenSpec.ofChange s with cond := some uptoSmall }

/-- 'quartermasterlaw08.GraceActs', WHERE WHAT IT READS IS OF BULK AT MOST 1048576: true; the input reads as it did. -/
def graceActsUptoRow : OpenClaim := { program := "ytdpadbhfhlhnlaa", sum := "f37fc9b7afed35ac100d25aec2ee5e9736f4e99c2a52594520dcdfc041ede7a1", func := "quartermaster/quartermasterlaw08.GraceActs", spec := "graceActs", unfollowed := true, recurses := true, apart := false, narrowed := true }
def GraceActsUptoSaid : Prop := graceActsUptoRow.holds Try.pinned (OpenSpec.upto graceActsSpec)

/-- 'quartermasterlaw08.GraceOnce', WHERE WHAT IT READS IS OF BULK AT MOST 1048576: true; the input reads as it did. -/
def graceOnceUptoRow : OpenClaim := { program := "ytdpadbhfhlhnlaa", sum := "f37fc9b7afed35ac100d25aec2ee5e9736f4e99c2a52594520dcdfc041ede7a1", func := "quartermaster/quartermasterlaw08.GraceOnce", spec := "graceOnce", unfollowed := true, recurses := true, apart := false, narrowed := true }
def GraceOnceUptoSaid : Prop := graceOnceUptoRow.holds Try.pinned (OpenSpec.upto graceOnceSpec)

/-- 'quartermasterlaw08.GraceLeft', WHERE WHAT IT READS IS OF BULK AT MOST 1048576: true; the input reads as it did. -/
def graceLeftUptoRow : OpenClaim := { program := "ytdpadbhfhlhnlaa", sum := "f37fc9b7afed35ac100d25aec2ee5e9736f4e99c2a52594520dcdfc041ede7a1", func := "quartermaster/quartermasterlaw08.GraceLeft", spec := "graceLeft", unfollowed := true, recurses := true, apart := false, narrowed := true }
def GraceLeftUptoSaid : Prop := graceLeftUptoRow.holds Try.pinned (OpenSpec.upto graceLeftSpec)

end Rows
end Go.Proofs.Ytdpadbhfhlhnlaa
