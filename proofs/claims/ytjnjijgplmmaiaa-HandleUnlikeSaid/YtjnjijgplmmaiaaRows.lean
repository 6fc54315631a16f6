/-
  No cell of these rows narrows 'for every input' (looked for: loops, veiled, ifaces, maps, wideKeys, modest, calm, conditions, laid).
  DERIVED. THE GIVEN ROWS OF THIS SEAT. 4 by the template 'for every input the law returns true; each argument reads behind the call as it read before'; 0 by the template 'total and deterministic' (their statements: YtjnjijgplmmaiaaTotals.lean).
  GIVEN WITH THE SEED: the statements are not yours to turn. If you find one false, say at which input.
  Laid BY PROGRAM, IN A SANDBOX (cutbox-rows.mjs): the forced cells as the released guide's own fill.sh prints them over the translation 81ee1838957bf501… (all of the seat's roots in one cut). By AI agents, Wed Nov 11 2026. No macro, syntax, notation, axiom, sorry.
-/
import Derived.Test.YtjnjijgplmmaiaaChecked
import GoSem.Claim
import GoSem.ClaimJoined
import GoSem.ClaimMapViews
import Derived.JoinedTies
import Derived.KernelRfl
namespace Go.Proofs.Ytjnjijgplmmaiaa
/- THE CELL 'sum', in the pinned program and in every row, IS THE sha256 OF THE DUMP (.gsa) THAT YtjnjijgplmmaiaaProg.lean LOADS. Nothing in Lean hashes anything: it is a label: what it is worth is what the hold of that sum in a sandbox is worth. -/
noncomputable def Try.pinned : Pinned := { name := "ytjnjijgplmmaiaa", sum := "81ee1838957bf501babb342d98cfa4bd81a6375dc44537b7521146b53206bced", checked := Try.checked }
namespace Rows
def none {H : Type} : Left H := { results := [], args := [] }

/-- 'quartermasterlaw07.HandleStale': WHATEVER THE INPUT: true; the input reads as it did. -/
def handleStaleSpec : ChangeSpec := { name := "handleStale", fn := fun _ => fun
  | [d1, d2, d3] => { results := [.lit (.bool true)], args := [d1, d2, d3] }
  | _ => none }
def handleStaleRow : OpenClaim := { program := "ytjnjijgplmmaiaa", sum := "81ee1838957bf501babb342d98cfa4bd81a6375dc44537b7521146b53206bced", func := "quartermaster/quartermasterlaw07.HandleStale", spec := "handleStale", unfollowed := true, recurses := true, apart := false }
def HandleStaleSaid : Prop := handleStaleRow.holds Try.pinned (OpenSpec.ofChange handleStaleSpec)

/-- ITS FALSE NEIGHBOUR: 'it returns false'. Refute it at one input. -/
def handleStaleWrong : ChangeSpec := { name := "handleStale", fn := fun _ => fun
  | [d1, d2, d3] => { results := [.lit (.bool false)], args := [d1, d2, d3] }
  | _ => none }
def HandleStaleWrongFalsely : Prop := handleStaleRow.holds Try.pinned (OpenSpec.ofChange handleStaleWrong)

/-- 'quartermasterlaw07.HandleWorn': WHATEVER THE INPUT: true; the input reads as it did. -/
def handleWornSpec : ChangeSpec := { name := "handleWorn", fn := fun _ => fun
  | [d1, d2] => { results := [.lit (.bool true)], args := [d1, d2] }
  | _ => none }
def handleWornRow : OpenClaim := { program := "ytjnjijgplmmaiaa", sum := "81ee1838957bf501babb342d98cfa4bd81a6375dc44537b7521146b53206bced", func := "quartermaster/quartermasterlaw07.HandleWorn", spec := "handleWorn", unfollowed := true, recurses := true, apart := false }
def HandleWornSaid : Prop := handleWornRow.holds Try.pinned (OpenSpec.ofChange handleWornSpec)

/-- ITS FALSE NEIGHBOUR: 'it returns false'. Refute it at one input. -/
def handleWornWrong : ChangeSpec := { name := "handleWorn", fn := fun _ => fun
  | [d1, d2] => { results := [.lit (.bool false)], args := [d1, d2] }
  | _ => none }
def HandleWornWrongFalsely : Prop := handleWornRow.holds Try.pinned (OpenSpec.ofChange handleWornWrong)

/-- 'quartermasterlaw07.HandleActs': WHATEVER THE INPUT: true; the input reads as it did. -/
def handleActsSpec : ChangeSpec := { name := "handleActs", fn := fun _ => fun
  | [d] => { results := [.lit (.bool true)], args := [d] }
  | _ => none }
def handleActsRow : OpenClaim := { program := "ytjnjijgplmmaiaa", sum := "81ee1838957bf501babb342d98cfa4bd81a6375dc44537b7521146b53206bced", func := "quartermaster/quartermasterlaw07.HandleActs", spec := "handleActs", unfollowed := true, recurses := true, apart := false }
def HandleActsSaid : Prop := handleActsRow.holds Try.pinned (OpenSpec.ofChange handleActsSpec)

/-- ITS FALSE NEIGHBOUR: 'it returns false'. Refute it at one input. -/
def handleActsWrong : ChangeSpec := { name := "handleActs", fn := fun _ => fun
  | [d] => { results := [.lit (.bool false)], args := [d] }
  | _ => none }
def HandleActsWrongFalsely : Prop := handleActsRow.holds Try.pinned (OpenSpec.ofChange handleActsWrong)

/-- 'quartermasterlaw07.HandleUnlike': WHATEVER THE INPUT: true; the input reads as it did. -/
def handleUnlikeSpec : ChangeSpec := { name := "handleUnlike", fn := fun _ => fun
  | [d] => { results := [.lit (.bool true)], args := [d] }
  | _ => none }
def handleUnlikeRow : OpenClaim := { program := "ytjnjijgplmmaiaa", sum := "81ee1838957bf501babb342d98cfa4bd81a6375dc44537b7521146b53206bced", func := "quartermaster/quartermasterlaw07.HandleUnlike", spec := "handleUnlike", unfollowed := true, recurses := true, apart := false }
def HandleUnlikeSaid : Prop := handleUnlikeRow.holds Try.pinned (OpenSpec.ofChange handleUnlikeSpec)

/-- ITS FALSE NEIGHBOUR: 'it returns false'. Refute it at one input. -/
def handleUnlikeWrong : ChangeSpec := { name := "handleUnlike", fn := fun _ => fun
  | [d] => { results := [.lit (.bool false)], args := [d] }
  | _ => none }
def HandleUnlikeWrongFalsely : Prop := handleUnlikeRow.holds Try.pinned (OpenSpec.ofChange handleUnlikeWrong)

/- THE SECOND FORM. 'bulk': how many values and letters a reading holds, each counted each time it is reached (what is shared counts as often as it is met; a slice's spare places count too). A statement '..UptoSaid' is the law's where the arguments, and the package variables that the reading takes, are together of bulk at most 1048576: NARROWER than '..Said'. Prove '..Said' where nothing that the law and all that it calls make is longer than what came in: it says more and counts as full. Else prove '..UptoSaid'. A law counts once. -/
mutual
def uptoBulk {H : Type} : DataW H → Nat
  | .lit (.string bytes) => bytes.length + 1
  | .lit _ => 1
  | .nil => 1
  | .ptr d => uptoBulk d + 1
  | .slice elems spare => uptoBulkAll elems + uptoBulkAll spare + 1
  | .agg parts => uptoBulkAll parts + 1
  | .iface _ d => uptoBulk d + 1
  | .map entries => uptoBulkEntries entries + 1
  | .held _ => 1
def uptoBulkAll {H : Type} : List (DataW H) → Nat
  | [] => 0
  | d :: r => uptoBulk d + uptoBulkAll r
def uptoBulkEntries {H : Type} : List (Lit × DataW H) → Nat
  | [] => 0
  | x :: r => uptoBulkEntry x + uptoBulkEntries r
def uptoBulkEntry {H : Type} : Lit × DataW H → Nat
  | (.string bytes, d) => bytes.length + uptoBulk d + 1
  | (_, d) => uptoBulk d + 1
 end
def uptoSmall : (H : Type) → List (DataW H) → Bool := fun _ ds => decide (uptoBulkAll ds ≤ 1048576)
def OpenSpec.upto (s : _root_.Go.ChangeSpec) : _root_.Go.OpenSpec := { _root_.Go.OpenSpec.ofChange s with cond := some uptoSmall }

/-- 'quartermasterlaw07.HandleStale', WHERE WHAT IT READS IS OF BULK AT MOST 1048576: true; the input reads as it did. -/
def handleStaleUptoRow : OpenClaim := { program := "ytjnjijgplmmaiaa", sum := "81ee1838957bf501babb342d98cfa4bd81a6375dc44537b7521146b53206bced", func := "quartermaster/quartermasterlaw07.HandleStale", spec := "handleStale", unfollowed := true, recurses := true, apart := false, narrowed := true }
def HandleStaleUptoSaid : Prop := handleStaleUptoRow.holds Try.pinned (OpenSpec.upto handleStaleSpec)

/-- 'quartermasterlaw07.HandleWorn', WHERE WHAT IT READS IS OF BULK AT MOST 1048576: true; the input reads as it did. -/
def handleWornUptoRow : OpenClaim := { program := "ytjnjijgplmmaiaa", sum := "81ee1838957bf501babb342d98cfa4bd81a6375dc44537b7521146b53206bced", func := "quartermaster/quartermasterlaw07.HandleWorn", spec := "handleWorn", unfollowed := true, recurses := true, apart := false, narrowed := true }
def HandleWornUptoSaid : Prop := handleWornUptoRow.holds Try.pinned (OpenSpec.upto handleWornSpec)

/-- 'quartermasterlaw07.HandleActs', WHERE WHAT IT READS IS OF BULK AT MOST 1048576: true; the input reads as it did. -/
def handleActsUptoRow : OpenClaim := { program := "ytjnjijgplmmaiaa", sum := "81ee1838957bf501babb342d98cfa4bd81a6375dc44537b7521146b53206bced", func := "quartermaster/quartermasterlaw07.HandleActs", spec := "handleActs", unfollowed := true, recurses := true, apart := false, narrowed := true }
def HandleActsUptoSaid : Prop := handleActsUptoRow.holds Try.pinned (OpenSpec.upto handleActsSpec)

/-- 'quartermasterlaw07.HandleUnlike', WHERE WHAT IT READS IS OF BULK AT MOST 1048576: true; the input reads as it did. -/
def handleUnlikeUptoRow : OpenClaim := { program := "ytjnjijgplmmaiaa", sum := "81ee1838957bf501babb342d98cfa4bd81a6375dc44537b7521146b53206bced", func := "quartermaster/quartermasterlaw07.HandleUnlike", spec := "handleUnlike", unfollowed := true, recurses := true, apart := false, narrowed := true }
def HandleUnlikeUptoSaid : Prop := handleUnlikeUptoRow.holds Try.pinned (OpenSpec.upto handleUnlikeSpec)

end Rows
end Go.Proofs.Ytjnjijgplmmaiaa
