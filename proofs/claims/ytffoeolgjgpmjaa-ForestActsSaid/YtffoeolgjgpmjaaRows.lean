/-
  No cell of these rows narrows 'for every input' (looked for: loops, veiled, ifaces, maps, wideKeys, modest, calm, conditions, laid).
  DERIVED. THE GIVEN ROWS OF THIS SEAT. 5 by the template 'for every input the law returns true; each argument reads behind the call as it read before'; 0 by the template 'total and deterministic' (their statements: YtffoeolgjgpmjaaTotals.lean).
  GIVEN WITH THE SEED: the statements are not yours to turn. If you find one false, say at which input.
  Laid BY PROGRAM, IN A SANDBOX (cutbox-rows.mjs): the forced cells as the released guide's own fill.sh prints them over the translation e30fcc9dae7d67e7… (all of the seat's roots in one cut). By AI agents, Wed Nov 11 2026. No macro, syntax, notation, axiom, sorry.
-/
import Derived.Test.YtffoeolgjgpmjaaChecked
import GoSem.Claim
import GoSem.ClaimJoined
import GoSem.ClaimMapViews
import Derived.JoinedTies
import Derived.KernelRfl
namespace Go.Proofs.Ytffoeolgjgpmjaa
/- THE CELL 'sum', in the pinned program and in every row, IS THE sha256 OF THE DUMP (.gsa) THAT YtffoeolgjgpmjaaProg.lean LOADS. Nothing in Lean hashes anything: it is a label: what it is worth is what the hold of that sum in a sandbox is worth. -/
noncomputable def Try.pinned : Pinned := { name := "ytffoeolgjgpmjaa", sum := "e30fcc9dae7d67e7a2ef2f485ba8873c92d510a4f76f436f8f4f96173801a43a", checked := Try.checked }
namespace Rows
def none {H : Type} : Left H := { results := [], args := [] }

/-- 'quartermasterlaw10.ForestActs': WHATEVER THE INPUT: true; the input reads as it did. -/
def forestActsSpec : ChangeSpec := { name := "forestActs", fn := fun _ => fun
  | [d] => { results := [.lit (.bool true)], args := [d] }
  | _ => none }
def forestActsRow : OpenClaim := { program := "ytffoeolgjgpmjaa", sum := "e30fcc9dae7d67e7a2ef2f485ba8873c92d510a4f76f436f8f4f96173801a43a", func := "quartermaster/quartermasterlaw10.ForestActs", spec := "forestActs", unfollowed := true, recurses := true, plainKeys := false, apart := false }
def ForestActsSaid : Prop := forestActsRow.holds Try.pinned (OpenSpec.ofChange forestActsSpec)

/-- ITS FALSE NEIGHBOUR: 'it returns false'. Refute it at one input. -/
def forestActsWrong : ChangeSpec := { name := "forestActs", fn := fun _ => fun
  | [d] => { results := [.lit (.bool false)], args := [d] }
  | _ => none }
def ForestActsWrongFalsely : Prop := forestActsRow.holds Try.pinned (OpenSpec.ofChange forestActsWrong)

/-- 'quartermasterlaw10.ForestCuts': WHATEVER THE INPUT: true; the input reads as it did. -/
def forestCutsSpec : ChangeSpec := { name := "forestCuts", fn := fun _ => fun
  | [d1, d2] => { results := [.lit (.bool true)], args := [d1, d2] }
  | _ => none }
def forestCutsRow : OpenClaim := { program := "ytffoeolgjgpmjaa", sum := "e30fcc9dae7d67e7a2ef2f485ba8873c92d510a4f76f436f8f4f96173801a43a", func := "quartermaster/quartermasterlaw10.ForestCuts", spec := "forestCuts", unfollowed := true, recurses := true, plainKeys := false, apart := false }
def ForestCutsSaid : Prop := forestCutsRow.holds Try.pinned (OpenSpec.ofChange forestCutsSpec)

/-- ITS FALSE NEIGHBOUR: 'it returns false'. Refute it at one input. -/
def forestCutsWrong : ChangeSpec := { name := "forestCuts", fn := fun _ => fun
  | [d1, d2] => { results := [.lit (.bool false)], args := [d1, d2] }
  | _ => none }
def ForestCutsWrongFalsely : Prop := forestCutsRow.holds Try.pinned (OpenSpec.ofChange forestCutsWrong)

/-- 'quartermasterlaw10.ForestLifts': WHATEVER THE INPUT: true; the input reads as it did. -/
def forestLiftsSpec : ChangeSpec := { name := "forestLifts", fn := fun _ => fun
  | [d1, d2] => { results := [.lit (.bool true)], args := [d1, d2] }
  | _ => none }
def forestLiftsRow : OpenClaim := { program := "ytffoeolgjgpmjaa", sum := "e30fcc9dae7d67e7a2ef2f485ba8873c92d510a4f76f436f8f4f96173801a43a", func := "quartermaster/quartermasterlaw10.ForestLifts", spec := "forestLifts", unfollowed := true, recurses := true, plainKeys := false, apart := false }
def ForestLiftsSaid : Prop := forestLiftsRow.holds Try.pinned (OpenSpec.ofChange forestLiftsSpec)

/-- ITS FALSE NEIGHBOUR: 'it returns false'. Refute it at one input. -/
def forestLiftsWrong : ChangeSpec := { name := "forestLifts", fn := fun _ => fun
  | [d1, d2] => { results := [.lit (.bool false)], args := [d1, d2] }
  | _ => none }
def ForestLiftsWrongFalsely : Prop := forestLiftsRow.holds Try.pinned (OpenSpec.ofChange forestLiftsWrong)

/-- 'quartermasterlaw10.ForestBelow': WHATEVER THE INPUT: true; the input reads as it did. -/
def forestBelowSpec : ChangeSpec := { name := "forestBelow", fn := fun _ => fun
  | [d1, d2] => { results := [.lit (.bool true)], args := [d1, d2] }
  | _ => none }
def forestBelowRow : OpenClaim := { program := "ytffoeolgjgpmjaa", sum := "e30fcc9dae7d67e7a2ef2f485ba8873c92d510a4f76f436f8f4f96173801a43a", func := "quartermaster/quartermasterlaw10.ForestBelow", spec := "forestBelow", unfollowed := true, recurses := true, plainKeys := false, apart := false }
def ForestBelowSaid : Prop := forestBelowRow.holds Try.pinned (OpenSpec.ofChange forestBelowSpec)

/-- ITS FALSE NEIGHBOUR: 'it returns false'. Refute it at one input. -/
def forestBelowWrong : ChangeSpec := { name := "forestBelow", fn := fun _ => fun
  | [d1, d2] => { results := [.lit (.bool false)], args := [d1, d2] }
  | _ => none }
def ForestBelowWrongFalsely : Prop := forestBelowRow.holds Try.pinned (OpenSpec.ofChange forestBelowWrong)

/-- 'quartermasterlaw10.ForestOwners': WHATEVER THE INPUT: true; the input reads as it did. -/
def forestOwnersSpec : ChangeSpec := { name := "forestOwners", fn := fun _ => fun
  | [d] => { results := [.lit (.bool true)], args := [d] }
  | _ => none }
def forestOwnersRow : OpenClaim := { program := "ytffoeolgjgpmjaa", sum := "e30fcc9dae7d67e7a2ef2f485ba8873c92d510a4f76f436f8f4f96173801a43a", func := "quartermaster/quartermasterlaw10.ForestOwners", spec := "forestOwners", unfollowed := true, recurses := true, plainKeys := false, apart := false }
def ForestOwnersSaid : Prop := forestOwnersRow.holds Try.pinned (OpenSpec.ofChange forestOwnersSpec)

/-- ITS FALSE NEIGHBOUR: 'it returns false'. Refute it at one input. -/
def forestOwnersWrong : ChangeSpec := { name := "forestOwners", fn := fun _ => fun
  | [d] => { results := [.lit (.bool false)], args := [d] }
  | _ => none }
def ForestOwnersWrongFalsely : Prop := forestOwnersRow.holds Try.pinned (OpenSpec.ofChange forestOwnersWrong)

/- THE SECOND FORM. 'bulk': how many values and letters a reading holds, each counted each time it is reached (what is shared counts as often as it is met; a slice's spare places count too). A statement '..UptoSaid' is the law's where the arguments, and the package variables that the reading takes, are together of bulk at most 1048576: NARROWER than '..Said'. Prove '..Said' where nothing that the law and all that it calls make is longer than what came in: it says more and counts as full. Else prove '..UptoSaid'. A law counts once. -/
mutual
def uptoBulk {H : Type} : DataW H → Nat
  | .lit (.string bytes) => bytes.length + 1
  | .lit _ => 1
  | .nil => 1
  | .ptr d => uptoBulk d + 1
  | .slice elems spare => uptoBulkAll elems + uptoBulkAll spare + 1
  | .agg parts => uptoBulkAll parts + 1
  | .iface _ d => uptoBulk d + 1
  | .map entries => uptoBulkEntries entries + 1
  | .held _ => 1
def uptoBulkAll {H : Type} : List (DataW H) → Nat
  | [] => 0
  | d :: r => uptoBulk d + uptoBulkAll r
def uptoBulkEntries {H : Type} : List (Lit × DataW H) → Nat
  | [] => 0
  | x :: r => uptoBulkEntry x + uptoBulkEntries r
def uptoBulkEntry {H : Type} : Lit × DataW H → Nat
  | (.string bytes, d) => bytes.length + uptoBulk d + 1
  | (_, d) => uptoBulk d + 1
 end
def uptoSmall : (H : Type) → List (DataW H) → Bool := fun _ ds => decide (uptoBulkAll ds ≤ 1048576)
def OpenSpec.upto (s : _root_.Go.ChangeSpec) : _root_.Go.OpenSpec := { _root_.Go.OpenSpec.ofChange s with cond := some uptoSmall }

/-- 'quartermasterlaw10.ForestActs', WHERE WHAT IT READS IS OF BULK AT MOST 1048576: true; the input reads as it did. -/
def forestActsUptoRow : OpenClaim := { program := "ytffoeolgjgpmjaa", sum := "e30fcc9dae7d67e7a2ef2f485ba8873c92d510a4f76f436f8f4f96173801a43a", func := "quartermaster/quartermasterlaw10.ForestActs", spec := "forestActs", unfollowed := true, recurses := true, plainKeys := false, apart := false, narrowed := true }
def ForestActsUptoSaid : Prop := forestActsUptoRow.holds Try.pinned (OpenSpec.upto forestActsSpec)

/-- 'quartermasterlaw10.ForestCuts', WHERE WHAT IT READS IS OF BULK AT MOST 1048576: true; the input reads as it did. -/
def forestCutsUptoRow : OpenClaim := { program := "ytffoeolgjgpmjaa", sum := "e30fcc9dae7d67e7a2ef2f485ba8873c92d510a4f76f436f8f4f96173801a43a", func := "quartermaster/quartermasterlaw10.ForestCuts", spec := "forestCuts", unfollowed := true, recurses := true, plainKeys := false, apart := false, narrowed := true }
def ForestCutsUptoSaid : Prop := forestCutsUptoRow.holds Try.pinned (OpenSpec.upto forestCutsSpec)

/-- 'quartermasterlaw10.ForestLifts', WHERE WHAT IT READS IS OF BULK AT MOST 1048576: true; the input reads as it did. -/
def forestLiftsUptoRow : OpenClaim := { program := "ytffoeolgjgpmjaa", sum := "e30fcc9dae7d67e7a2ef2f485ba8873c92d510a4f76f436f8f4f96173801a43a", func := "quartermaster/quartermasterlaw10.ForestLifts", spec := "forestLifts", unfollowed := true, recurses := true, plainKeys := false, apart := false, narrowed := true }
def ForestLiftsUptoSaid : Prop := forestLiftsUptoRow.holds Try.pinned (OpenSpec.upto forestLiftsSpec)

/-- 'quartermasterlaw10.ForestBelow', WHERE WHAT IT READS IS OF BULK AT MOST 1048576: true; the input reads as it did. -/
def forestBelowUptoRow : OpenClaim := { program := "ytffoeolgjgpmjaa", sum := "e30fcc9dae7d67e7a2ef2f485ba8873c92d510a4f76f436f8f4f96173801a43a", func := "quartermaster/quartermasterlaw10.ForestBelow", spec := "forestBelow", unfollowed := true, recurses := true, plainKeys := false, apart := false, narrowed := true }
def ForestBelowUptoSaid : Prop := forestBelowUptoRow.holds Try.pinned (OpenSpec.upto forestBelowSpec)

/-- 'quartermasterlaw10.ForestOwners', WHERE WHAT IT READS IS OF BULK AT MOST 1048576: true; the input reads as it did. -/
def forestOwnersUptoRow : OpenClaim := { program := "ytffoeolgjgpmjaa", sum := "e30fcc9dae7d67e7a2ef2f485ba8873c92d510a4f76f436f8f4f96173801a43a", func := "quartermaster/quartermasterlaw10.ForestOwners", spec := "forestOwners", unfollowed := true, recurses := true, plainKeys := false, apart := false, narrowed := true }
def ForestOwnersUptoSaid : Prop := forestOwnersUptoRow.holds Try.pinned (OpenSpec.upto forestOwnersSpec)

end Rows
end Go.Proofs.Ytffoeolgjgpmjaa
