/-
  No cell of these rows narrows 'for every input' (looked for: loops, veiled, ifaces, maps, wideKeys, modest, calm, conditions, laid).
  DERIVED. THE GIVEN ROWS OF THIS SEAT. 6 by the template 'for every input the law returns true; each argument reads behind the call as it read before'; 0 by the template 'total and deterministic' (their statements: YtgmniphegombhaaTotals.lean).
  GIVEN WITH THE SEED: the statements are not yours to turn. If you find one false, say at which input.
  Laid BY PROGRAM, IN A SANDBOX (cutbox-rows.mjs): the forced cells as the released guide's own fill.sh prints them over the translation 6a4e0c096fe0c800… (all of the seat's roots in one cut). By AI agents, Wed Nov 11 2026. No macro, syntax, notation, axiom, sorry.
-/
import Derived.Test.YtgmniphegombhaaChecked
import GoSem.Claim
import GoSem.ClaimJoined
import GoSem.ClaimMapViews
import Derived.JoinedTies
import Derived.KernelRfl
namespace Go.Proofs.Ytgmniphegombhaa
/- THE CELL 'sum', in the pinned program and in every row, IS THE sha256 OF THE DUMP (.gsa) THAT YtgmniphegombhaaProg.lean LOADS. Nothing in Lean hashes anything: it is a label: what it is worth is what the hold of that sum in a sandbox is worth. -/
noncomputable def Try.pinned : Pinned := { name := "ytgmniphegombhaa", sum := "6a4e0c096fe0c8005114e938bec2549ad2e0d87c08d4616a9ca6336fc65a7e80", checked := Try.checked }
namespace Rows
def none {H : Type} : Left H := { results := [], args := [] }

/-- 'quartermasterlaw15.MeetOrder': WHATEVER THE INPUT: true; the input reads as it did. -/
def meetOrderSpec : ChangeSpec := { name := "meetOrder", fn := fun _ => fun
  | [d1, d2] => { results := [.lit (.bool true)], args := [d1, d2] }
  | _ => none }
def meetOrderRow : OpenClaim := { program := "ytgmniphegombhaa", sum := "6a4e0c096fe0c8005114e938bec2549ad2e0d87c08d4616a9ca6336fc65a7e80", func := "quartermaster/quartermasterlaw15.MeetOrder", spec := "meetOrder", unfollowed := true, recurses := true, apart := false }
def MeetOrderSaid : Prop := meetOrderRow.holds Try.pinned (OpenSpec.ofChange meetOrderSpec)

/-- ITS FALSE NEIGHBOUR: 'it returns false'. Refute it at one input. -/
def meetOrderWrong : ChangeSpec := { name := "meetOrder", fn := fun _ => fun
  | [d1, d2] => { results := [.lit (.bool false)], args := [d1, d2] }
  | _ => none }
def MeetOrderWrongFalsely : Prop := meetOrderRow.holds Try.pinned (OpenSpec.ofChange meetOrderWrong)

/-- 'quartermasterlaw15.MeetCalls': WHATEVER THE INPUT: true; the input reads as it did. -/
def meetCallsSpec : ChangeSpec := { name := "meetCalls", fn := fun _ => fun
  | [d1, d2] => { results := [.lit (.bool true)], args := [d1, d2] }
  | _ => none }
def meetCallsRow : OpenClaim := { program := "ytgmniphegombhaa", sum := "6a4e0c096fe0c8005114e938bec2549ad2e0d87c08d4616a9ca6336fc65a7e80", func := "quartermaster/quartermasterlaw15.MeetCalls", spec := "meetCalls", unfollowed := true, recurses := true, apart := false }
def MeetCallsSaid : Prop := meetCallsRow.holds Try.pinned (OpenSpec.ofChange meetCallsSpec)

/-- ITS FALSE NEIGHBOUR: 'it returns false'. Refute it at one input. -/
def meetCallsWrong : ChangeSpec := { name := "meetCalls", fn := fun _ => fun
  | [d1, d2] => { results := [.lit (.bool false)], args := [d1, d2] }
  | _ => none }
def MeetCallsWrongFalsely : Prop := meetCallsRow.holds Try.pinned (OpenSpec.ofChange meetCallsWrong)

/-- 'quartermasterlaw15.MeetLeaves': WHATEVER THE INPUT: true; the input reads as it did. -/
def meetLeavesSpec : ChangeSpec := { name := "meetLeaves", fn := fun _ => fun
  | [d1, d2] => { results := [.lit (.bool true)], args := [d1, d2] }
  | _ => none }
def meetLeavesRow : OpenClaim := { program := "ytgmniphegombhaa", sum := "6a4e0c096fe0c8005114e938bec2549ad2e0d87c08d4616a9ca6336fc65a7e80", func := "quartermaster/quartermasterlaw15.MeetLeaves", spec := "meetLeaves", unfollowed := true, recurses := true, apart := false }
def MeetLeavesSaid : Prop := meetLeavesRow.holds Try.pinned (OpenSpec.ofChange meetLeavesSpec)

/-- ITS FALSE NEIGHBOUR: 'it returns false'. Refute it at one input. -/
def meetLeavesWrong : ChangeSpec := { name := "meetLeaves", fn := fun _ => fun
  | [d1, d2] => { results := [.lit (.bool false)], args := [d1, d2] }
  | _ => none }
def MeetLeavesWrongFalsely : Prop := meetLeavesRow.holds Try.pinned (OpenSpec.ofChange meetLeavesWrong)

/-- 'quartermasterlaw15.MeetOne': WHATEVER THE INPUT: true; the input reads as it did. -/
def meetOneSpec : ChangeSpec := { name := "meetOne", fn := fun _ => fun
  | [d] => { results := [.lit (.bool true)], args := [d] }
  | _ => none }
def meetOneRow : OpenClaim := { program := "ytgmniphegombhaa", sum := "6a4e0c096fe0c8005114e938bec2549ad2e0d87c08d4616a9ca6336fc65a7e80", func := "quartermaster/quartermasterlaw15.MeetOne", spec := "meetOne", unfollowed := true, recurses := true, apart := false }
def MeetOneSaid : Prop := meetOneRow.holds Try.pinned (OpenSpec.ofChange meetOneSpec)

/-- ITS FALSE NEIGHBOUR: 'it returns false'. Refute it at one input. -/
def meetOneWrong : ChangeSpec := { name := "meetOne", fn := fun _ => fun
  | [d] => { results := [.lit (.bool false)], args := [d] }
  | _ => none }
def MeetOneWrongFalsely : Prop := meetOneRow.holds Try.pinned (OpenSpec.ofChange meetOneWrong)

/-- 'quartermasterlaw15.MeetCloses': WHATEVER THE INPUT: true; the input reads as it did. -/
def meetClosesSpec : ChangeSpec := { name := "meetCloses", fn := fun _ => fun
  | [d1, d2] => { results := [.lit (.bool true)], args := [d1, d2] }
  | _ => none }
def meetClosesRow : OpenClaim := { program := "ytgmniphegombhaa", sum := "6a4e0c096fe0c8005114e938bec2549ad2e0d87c08d4616a9ca6336fc65a7e80", func := "quartermaster/quartermasterlaw15.MeetCloses", spec := "meetCloses", unfollowed := true, recurses := true, apart := false }
def MeetClosesSaid : Prop := meetClosesRow.holds Try.pinned (OpenSpec.ofChange meetClosesSpec)

/-- ITS FALSE NEIGHBOUR: 'it returns false'. Refute it at one input. -/
def meetClosesWrong : ChangeSpec := { name := "meetCloses", fn := fun _ => fun
  | [d1, d2] => { results := [.lit (.bool false)], args := [d1, d2] }
  | _ => none }
def MeetClosesWrongFalsely : Prop := meetClosesRow.holds Try.pinned (OpenSpec.ofChange meetClosesWrong)

/-- 'quartermasterlaw15.MeetActs': WHATEVER THE INPUT: true; the input reads as it did. -/
def meetActsSpec : ChangeSpec := { name := "meetActs", fn := fun _ => fun
  | [d] => { results := [.lit (.bool true)], args := [d] }
  | _ => none }
def meetActsRow : OpenClaim := { program := "ytgmniphegombhaa", sum := "6a4e0c096fe0c8005114e938bec2549ad2e0d87c08d4616a9ca6336fc65a7e80", func := "quartermaster/quartermasterlaw15.MeetActs", spec := "meetActs", unfollowed := true, recurses := true, apart := false }
def MeetActsSaid : Prop := meetActsRow.holds Try.pinned (OpenSpec.ofChange meetActsSpec)

/-- ITS FALSE NEIGHBOUR: 'it returns false'. Refute it at one input. -/
def meetActsWrong : ChangeSpec := { name := "meetActs", fn := fun _ => fun
  | [d] => { results := [.lit (.bool false)], args := [d] }
  | _ => none }
def MeetActsWrongFalsely : Prop := meetActsRow.holds Try.pinned (OpenSpec.ofChange meetActsWrong)

/- THE SECOND FORM. 'bulk': how many values and letters a reading holds, each counted each time it is reached (what is shared counts as often as it is met; a slice's spare places count too). A statement '..UptoSaid' is the law's where the arguments, and the package variables that the reading takes, are together of bulk at most 1048576: NARROWER than '..Said'. Prove '..Said' where nothing that the law and all that it calls make is longer than what came in: it says more and counts as full. Else prove '..UptoSaid'. A law counts once. -/
mutual
def uptoBulk {H : Type} : DataW H → Nat
  | .lit (.string bytes) => bytes.length + 1
  | .lit _ => 1
  | .nil => 1
  | .ptr d => uptoBulk d + 1
  | .slice elems spare => uptoBulkAll elems + uptoBulkAll spare + 1
  | .agg parts => uptoBulkAll parts + 1
  | .iface _ d => uptoBulk d + 1
  | .map entries => uptoBulkEntries entries + 1
  | .held _ => 1
def uptoBulkAll {H : Type} : List (DataW H) → Nat
  | [] => 0
  | d :: r => uptoBulk d + uptoBulkAll r
def uptoBulkEntries {H : Type} : List (Lit × DataW H) → Nat
  | [] => 0
  | x :: r => uptoBulkEntry x + uptoBulkEntries r
def uptoBulkEntry {H : Type} : Lit × DataW H → Nat
  | (.string bytes, d) => bytes.length + uptoBulk d + 1
  | (_, d) => uptoBulk d + 1
 end
def uptoSmall : (H : Type) → List (DataW H) → Bool := fun _ ds => decide (uptoBulkAll ds ≤ 1048576)
def OpenSpec.upto (s : _root_.Go.ChangeSpec) : _root_.Go.OpenSpec := { _root_.Go.OpenSpec.ofChange s with cond := some uptoSmall }

/-- 'quartermasterlaw15.MeetOrder', WHERE WHAT IT READS IS OF BULK AT MOST 1048576: true; the input reads as it did. -/
def meetOrderUptoRow : OpenClaim := { program := "ytgmniphegombhaa", sum := "6a4e0c096fe0c8005114e938bec2549ad2e0d87c08d4616a9ca6336fc65a7e80", func := "quartermaster/quartermasterlaw15.MeetOrder", spec := "meetOrder", unfollowed := true, recurses := true, apart := false, narrowed := true }
def MeetOrderUptoSaid : Prop := meetOrderUptoRow.holds Try.pinned (OpenSpec.upto meetOrderSpec)

/-- 'quartermasterlaw15.MeetCalls', WHERE WHAT IT READS IS OF BULK AT MOST 1048576: true; the input reads as it did. -/
def meetCallsUptoRow : OpenClaim := { program := "ytgmniphegombhaa", sum := "6a4e0c096fe0c8005114e938bec2549ad2e0d87c08d4616a9ca6336fc65a7e80", func := "quartermaster/quartermasterlaw15.MeetCalls", spec := "meetCalls", unfollowed := true, recurses := true, apart := false, narrowed := true }
def MeetCallsUptoSaid : Prop := meetCallsUptoRow.holds Try.pinned (OpenSpec.upto meetCallsSpec)

/-- 'quartermasterlaw15.MeetLeaves', WHERE WHAT IT READS IS OF BULK AT MOST 1048576: true; the input reads as it did. -/
def meetLeavesUptoRow : OpenClaim := { program := "ytgmniphegombhaa", sum := "6a4e0c096fe0c8005114e938bec2549ad2e0d87c08d4616a9ca6336fc65a7e80", func := "quartermaster/quartermasterlaw15.MeetLeaves", spec := "meetLeaves", unfollowed := true, recurses := true, apart := false, narrowed := true }
def MeetLeavesUptoSaid : Prop := meetLeavesUptoRow.holds Try.pinned (OpenSpec.upto meetLeavesSpec)

/-- 'quartermasterlaw15.MeetOne', WHERE WHAT IT READS IS OF BULK AT MOST 1048576: true; the input reads as it did. -/
def meetOneUptoRow : OpenClaim := { program := "ytgmniphegombhaa", sum := "6a4e0c096fe0c8005114e938bec2549ad2e0d87c08d4616a9ca6336fc65a7e80", func := "quartermaster/quartermasterlaw15.MeetOne", spec := "meetOne", unfollowed := true, recurses := true, apart := false, narrowed := true }
def MeetOneUptoSaid : Prop := meetOneUptoRow.holds Try.pinned (OpenSpec.upto meetOneSpec)

/-- 'quartermasterlaw15.MeetCloses', WHERE WHAT IT READS IS OF BULK AT MOST 1048576: true; the input reads as it did. -/
def meetClosesUptoRow : OpenClaim := { program := "ytgmniphegombhaa", sum := "6a4e0c096fe0c8005114e938bec2549ad2e0d87c08d4616a9ca6336fc65a7e80", func := "quartermaster/quartermasterlaw15.MeetCloses", spec := "meetCloses", unfollowed := true, recurses := true, apart := false, narrowed := true }
def MeetClosesUptoSaid : Prop := meetClosesUptoRow.holds Try.pinned (OpenSpec.upto meetClosesSpec)

/-- 'quartermasterlaw15.MeetActs', WHERE WHAT IT READS IS OF BULK AT MOST 1048576: true; the input reads as it did. -/
def meetActsUptoRow : OpenClaim := { program := "ytgmniphegombhaa", sum := "6a4e0c096fe0c8005114e938bec2549ad2e0d87c08d4616a9ca6336fc65a7e80", func := "quartermaster/quartermasterlaw15.MeetActs", spec := "meetActs", unfollowed := true, recurses := true, apart := false, narrowed := true }
def MeetActsUptoSaid : Prop := meetActsUptoRow.holds Try.pinned (OpenSpec.upto meetActsSpec)

end Rows
end Go.Proofs.Ytgmniphegombhaa
