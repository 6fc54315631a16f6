/-
  No cell of these rows narrows 'for every input' (looked for: loops, veiled, ifaces, maps, wideKeys, modest, calm, conditions, laid).
  DERIVED. THE GIVEN ROWS OF THIS SEAT. 6 by the template 'for every input the law returns true; each argument reads behind the call as it read before'; 0 by the template 'total and deterministic' (their statements: YtdfmfhcjnjfjbaaTotals.lean).
  GIVEN WITH THE SEED: the statements are not yours to turn. If you find one false, say at which input.
  Laid BY PROGRAM, IN A SANDBOX (cutbox-rows.mjs): the forced cells as the released guide's own fill.sh prints them over the translation 338526b11b75c908… (all of the seat's roots in one cut). By AI agents, Wed Nov 11 2026. No macro, syntax, notation, axiom, sorry.
-/
import Derived.Test.YtdfmfhcjnjfjbaaChecked
import GoSem.Claim
import GoSem.ClaimJoined
import GoSem.ClaimMapViews
import Derived.JoinedTies
import Derived.KernelRfl
namespace Go.Proofs.Ytdfmfhcjnjfjbaa
/- THE CELL 'sum', in the pinned program and in every row, IS THE sha256 OF THE DUMP (.gsa) THAT YtdfmfhcjnjfjbaaProg.lean LOADS. Nothing in Lean hashes anything: it is a label: what it is worth is what the hold of that sum in a sandbox is worth. -/
noncomputable def Try.pinned : Pinned := { name := "ytdfmfhcjnjfjbaa", sum := "338526b11b75c90863d5fbe14893513a09101180c832f0b6addfa44c30798226", checked := Try.checked }
namespace Rows
def none {H : Type} : Left H := { results := [], args := [] }

/-- 'quartermasterlaw18.ThreadCalls': WHATEVER THE INPUT: true; the input reads as it did. -/
def threadCallsSpec : ChangeSpec := { name := "threadCalls", fn := fun _ => fun
  | [d1, d2, d3] => { results := [.lit (.bool true)], args := [d1, d2, d3] }
  | _ => none }
def threadCallsRow : OpenClaim := { program := "ytdfmfhcjnjfjbaa", sum := "338526b11b75c90863d5fbe14893513a09101180c832f0b6addfa44c30798226", func := "quartermaster/quartermasterlaw18.ThreadCalls", spec := "threadCalls", unfollowed := true, recurses := true, apart := false }
def ThreadCallsSaid : Prop := threadCallsRow.holds Try.pinned (OpenSpec.ofChange threadCallsSpec)

/-- ITS FALSE NEIGHBOUR: 'it returns false'. Refute it at one input. -/
def threadCallsWrong : ChangeSpec := { name := "threadCalls", fn := fun _ => fun
  | [d1, d2, d3] => { results := [.lit (.bool false)], args := [d1, d2, d3] }
  | _ => none }
def ThreadCallsWrongFalsely : Prop := threadCallsRow.holds Try.pinned (OpenSpec.ofChange threadCallsWrong)

/-- 'quartermasterlaw18.ThreadHigh': WHATEVER THE INPUT: true; the input reads as it did. -/
def threadHighSpec : ChangeSpec := { name := "threadHigh", fn := fun _ => fun
  | [d1, d2, d3] => { results := [.lit (.bool true)], args := [d1, d2, d3] }
  | _ => none }
def threadHighRow : OpenClaim := { program := "ytdfmfhcjnjfjbaa", sum := "338526b11b75c90863d5fbe14893513a09101180c832f0b6addfa44c30798226", func := "quartermaster/quartermasterlaw18.ThreadHigh", spec := "threadHigh", unfollowed := true, recurses := true, apart := false }
def ThreadHighSaid : Prop := threadHighRow.holds Try.pinned (OpenSpec.ofChange threadHighSpec)

/-- ITS FALSE NEIGHBOUR: 'it returns false'. Refute it at one input. -/
def threadHighWrong : ChangeSpec := { name := "threadHigh", fn := fun _ => fun
  | [d1, d2, d3] => { results := [.lit (.bool false)], args := [d1, d2, d3] }
  | _ => none }
def ThreadHighWrongFalsely : Prop := threadHighRow.holds Try.pinned (OpenSpec.ofChange threadHighWrong)

/-- 'quartermasterlaw18.ThreadTimes': WHATEVER THE INPUT: true; the input reads as it did. -/
def threadTimesSpec : ChangeSpec := { name := "threadTimes", fn := fun _ => fun
  | [d1, d2, d3] => { results := [.lit (.bool true)], args := [d1, d2, d3] }
  | _ => none }
def threadTimesRow : OpenClaim := { program := "ytdfmfhcjnjfjbaa", sum := "338526b11b75c90863d5fbe14893513a09101180c832f0b6addfa44c30798226", func := "quartermaster/quartermasterlaw18.ThreadTimes", spec := "threadTimes", unfollowed := true, recurses := true, apart := false }
def ThreadTimesSaid : Prop := threadTimesRow.holds Try.pinned (OpenSpec.ofChange threadTimesSpec)

/-- ITS FALSE NEIGHBOUR: 'it returns false'. Refute it at one input. -/
def threadTimesWrong : ChangeSpec := { name := "threadTimes", fn := fun _ => fun
  | [d1, d2, d3] => { results := [.lit (.bool false)], args := [d1, d2, d3] }
  | _ => none }
def ThreadTimesWrongFalsely : Prop := threadTimesRow.holds Try.pinned (OpenSpec.ofChange threadTimesWrong)

/-- 'quartermasterlaw18.ThreadStops': WHATEVER THE INPUT: true; the input reads as it did. -/
def threadStopsSpec : ChangeSpec := { name := "threadStops", fn := fun _ => fun
  | [d1, d2, d3] => { results := [.lit (.bool true)], args := [d1, d2, d3] }
  | _ => none }
def threadStopsRow : OpenClaim := { program := "ytdfmfhcjnjfjbaa", sum := "338526b11b75c90863d5fbe14893513a09101180c832f0b6addfa44c30798226", func := "quartermaster/quartermasterlaw18.ThreadStops", spec := "threadStops", unfollowed := true, recurses := true, apart := false }
def ThreadStopsSaid : Prop := threadStopsRow.holds Try.pinned (OpenSpec.ofChange threadStopsSpec)

/-- ITS FALSE NEIGHBOUR: 'it returns false'. Refute it at one input. -/
def threadStopsWrong : ChangeSpec := { name := "threadStops", fn := fun _ => fun
  | [d1, d2, d3] => { results := [.lit (.bool false)], args := [d1, d2, d3] }
  | _ => none }
def ThreadStopsWrongFalsely : Prop := threadStopsRow.holds Try.pinned (OpenSpec.ofChange threadStopsWrong)

/-- 'quartermasterlaw18.ThreadGone': WHATEVER THE INPUT: true; the input reads as it did. -/
def threadGoneSpec : ChangeSpec := { name := "threadGone", fn := fun _ => fun
  | [d1, d2, d3, d4] => { results := [.lit (.bool true)], args := [d1, d2, d3, d4] }
  | _ => none }
def threadGoneRow : OpenClaim := { program := "ytdfmfhcjnjfjbaa", sum := "338526b11b75c90863d5fbe14893513a09101180c832f0b6addfa44c30798226", func := "quartermaster/quartermasterlaw18.ThreadGone", spec := "threadGone", unfollowed := true, recurses := true, apart := false }
def ThreadGoneSaid : Prop := threadGoneRow.holds Try.pinned (OpenSpec.ofChange threadGoneSpec)

/-- ITS FALSE NEIGHBOUR: 'it returns false'. Refute it at one input. -/
def threadGoneWrong : ChangeSpec := { name := "threadGone", fn := fun _ => fun
  | [d1, d2, d3, d4] => { results := [.lit (.bool false)], args := [d1, d2, d3, d4] }
  | _ => none }
def ThreadGoneWrongFalsely : Prop := threadGoneRow.holds Try.pinned (OpenSpec.ofChange threadGoneWrong)

/-- 'quartermasterlaw18.ThreadTold': WHATEVER THE INPUT: true; the input reads as it did. -/
def threadToldSpec : ChangeSpec := { name := "threadTold", fn := fun _ => fun
  | [d] => { results := [.lit (.bool true)], args := [d] }
  | _ => none }
def threadToldRow : OpenClaim := { program := "ytdfmfhcjnjfjbaa", sum := "338526b11b75c90863d5fbe14893513a09101180c832f0b6addfa44c30798226", func := "quartermaster/quartermasterlaw18.ThreadTold", spec := "threadTold", unfollowed := true, recurses := true, apart := false }
def ThreadToldSaid : Prop := threadToldRow.holds Try.pinned (OpenSpec.ofChange threadToldSpec)

/-- ITS FALSE NEIGHBOUR: 'it returns false'. Refute it at one input. -/
def threadToldWrong : ChangeSpec := { name := "threadTold", fn := fun _ => fun
  | [d] => { results := [.lit (.bool false)], args := [d] }
  | _ => none }
def ThreadToldWrongFalsely : Prop := threadToldRow.holds Try.pinned (OpenSpec.ofChange threadToldWrong)

/- THE SECOND FORM. 'bulk': how many values and letters a reading holds, each counted each time it is reached (what is shared counts as often as it is met; a slice's spare places count too). A statement '..UptoSaid' is the law's where the arguments, and the package variables that the reading takes, are together of bulk at most 1048576: NARROWER than '..Said'. Prove '..Said' where nothing that the law and all that it calls make is longer than what came in: it says more and counts as full. Else prove '..UptoSaid'. A law counts once. -/
mutual
def uptoBulk {H : Type} : DataW H → Nat
  | .lit (.string bytes) => bytes.length + 1
  | .lit _ => 1
  | .nil => 1
  | .ptr d => uptoBulk d + 1
  | .slice elems spare => uptoBulkAll elems + uptoBulkAll spare + 1
  | .agg parts => uptoBulkAll parts + 1
  | .iface _ d => uptoBulk d + 1
  | .map entries => uptoBulkEntries entries + 1
  | .held _ => 1
def uptoBulkAll {H : Type} : List (DataW H) → Nat
  | [] => 0
  | d :: r => uptoBulk d + uptoBulkAll r
def uptoBulkEntries {H : Type} : List (Lit × DataW H) → Nat
  | [] => 0
  | x :: r => uptoBulkEntry x + uptoBulkEntries r
def uptoBulkEntry {H : Type} : Lit × DataW H → Nat
  | (.string bytes, d) => bytes.length + uptoBulk d + 1
  | (_, d) => uptoBulk d + 1
 end
def uptoSmall : (H : Type) → List (DataW H) → Bool := fun _ ds => decide (uptoBulkAll ds ≤ 1048576)
def OpenSpec.upto (s : _root_.Go.ChangeSpec) : _root_.Go.OpenSpec := { _root_.Go.OpenSpec.ofChange s with cond := some uptoSmall }

/-- 'quartermasterlaw18.ThreadCalls', WHERE WHAT IT READS IS OF BULK AT MOST 1048576: true; the input reads as it did. -/
def threadCallsUptoRow : OpenClaim := { program := "ytdfmfhcjnjfjbaa", sum := "338526b11b75c90863d5fbe14893513a09101180c832f0b6addfa44c30798226", func := "quartermaster/quartermasterlaw18.ThreadCalls", spec := "threadCalls", unfollowed := true, recurses := true, apart := false, narrowed := true }
def ThreadCallsUptoSaid : Prop := threadCallsUptoRow.holds Try.pinned (OpenSpec.upto threadCallsSpec)

/-- 'quartermasterlaw18.ThreadHigh', WHERE WHAT IT READS IS OF BULK AT MOST 1048576: true; the input reads as it did. -/
def threadHighUptoRow : OpenClaim := { program := "ytdfmfhcjnjfjbaa", sum := "338526b11b75c90863d5fbe14893513a09101180c832f0b6addfa44c30798226", func := "quartermaster/quartermasterlaw18.ThreadHigh", spec := "threadHigh", unfollowed := true, recurses := true, apart := false, narrowed := true }
def ThreadHighUptoSaid : Prop := threadHighUptoRow.holds Try.pinned (OpenSpec.upto threadHighSpec)

/-- 'quartermasterlaw18.ThreadTimes', WHERE WHAT IT READS IS OF BULK AT MOST 1048576: true; the input reads as it did. -/
def threadTimesUptoRow : OpenClaim := { program := "ytdfmfhcjnjfjbaa", sum := "338526b11b75c90863d5fbe14893513a09101180c832f0b6addfa44c30798226", func := "quartermaster/quartermasterlaw18.ThreadTimes", spec := "threadTimes", unfollowed := true, recurses := true, apart := false, narrowed := true }
def ThreadTimesUptoSaid : Prop := threadTimesUptoRow.holds Try.pinned (OpenSpec.upto threadTimesSpec)

/-- 'quartermasterlaw18.ThreadStops', WHERE WHAT IT READS IS OF BULK AT MOST 1048576: true; the input reads as it did. -/
def threadStopsUptoRow : OpenClaim := { program := "ytdfmfhcjnjfjbaa", sum := "338526b11b75c90863d5fbe14893513a09101180c832f0b6addfa44c30798226", func := "quartermaster/quartermasterlaw18.ThreadStops", spec := "threadStops", unfollowed := true, recurses := true, apart := false, narrowed := true }
def ThreadStopsUptoSaid : Prop := threadStopsUptoRow.holds Try.pinned (OpenSpec.upto threadStopsSpec)

/-- 'quartermasterlaw18.ThreadGone', WHERE WHAT IT READS IS OF BULK AT MOST 1048576: true; the input reads as it did. -/
def threadGoneUptoRow : OpenClaim := { program := "ytdfmfhcjnjfjbaa", sum := "338526b11b75c90863d5fbe14893513a09101180c832f0b6addfa44c30798226", func := "quartermaster/quartermasterlaw18.ThreadGone", spec := "threadGone", unfollowed := true, recurses := true, apart := false, narrowed := true }
def ThreadGoneUptoSaid : Prop := threadGoneUptoRow.holds Try.pinned (OpenSpec.upto threadGoneSpec)

/-- 'quartermasterlaw18.ThreadTold', WHERE WHAT IT READS IS OF BULK AT MOST 1048576: true; the input reads as it did. -/
def threadToldUptoRow : OpenClaim := { program := "ytdfmfhcjnjfjbaa", sum := "338526b11b75c90863d5fbe14893513a09101180c832f0b6addfa44c30798226", func := "quartermaster/quartermasterlaw18.ThreadTold", spec := "threadTold", unfollowed := true, recurses := true, apart := false, narrowed := true }
def ThreadToldUptoSaid : Prop := threadToldUptoRow.holds Try.pinned (OpenSpec.upto threadToldSpec)

end Rows
end Go.Proofs.Ytdfmfhcjnjfjbaa
