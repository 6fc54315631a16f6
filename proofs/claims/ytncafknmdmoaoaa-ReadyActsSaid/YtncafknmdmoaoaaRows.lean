/-
  No cell of these rows narrows 'for every input' (looked for: loops, veiled, ifaces, maps, wideKeys, modest, calm, conditions, laid).
  DERIVED. THE GIVEN ROWS OF THIS SEAT. 7 by the template 'for every input the law returns true; each argument reads behind the call as it read before'; 0 by the template 'total and deterministic' (their statements: YtncafknmdmoaoaaTotals.lean).
  GIVEN WITH THE SEED: the statements are not yours to turn. If you find one false, say at which input.
  Laid BY PROGRAM, IN A SANDBOX (cutbox-rows.mjs): the forced cells as the released guide's own fill.sh prints them over the translation 75f6064435e8e07e… (all of the seat's roots in one cut). By AI agents, Wed Nov 11 2026. No macro, syntax, notation, axiom, sorry.
-/
import Derived.Test.YtncafknmdmoaoaaChecked
import GoSem.Claim
import GoSem.ClaimJoined
import GoSem.ClaimMapViews
import Derived.JoinedTies
import Derived.KernelRfl
namespace Go.Proofs.Ytncafknmdmoaoaa
/- THE CELL 'sum', in the pinned program and in every row, IS THE sha256 OF THE DUMP (.gsa) THAT YtncafknmdmoaoaaProg.lean LOADS. Nothing in Lean hashes anything: it is a label: what it is worth is what the hold of that sum in a sandbox is worth. -/
noncomputable def Try.pinned : Pinned := { name := "ytncafknmdmoaoaa", sum := "75f6064435e8e07ef3a2b240b4582f6b9c97710ce5e73ae86ab8781d22d90726", checked := Try.checked }
namespace Rows
def none {H : Type} : Left H := { results := [], args := [] }

/-- 'quartermasterlaw11.ReadyActs': WHATEVER THE INPUT: true; the input reads as it did. -/
def readyActsSpec : ChangeSpec := { name := "readyActs", fn := fun _ => fun
  | [d] => { results := [.lit (.bool true)], args := [d] }
  | _ => none }
def readyActsRow : OpenClaim := { program := "ytncafknmdmoaoaa", sum := "75f6064435e8e07ef3a2b240b4582f6b9c97710ce5e73ae86ab8781d22d90726", func := "quartermaster/quartermasterlaw11.ReadyActs", spec := "readyActs", unfollowed := true, recurses := true, apart := false }
def ReadyActsSaid : Prop := readyActsRow.holds Try.pinned (OpenSpec.ofChange readyActsSpec)

/-- ITS FALSE NEIGHBOUR: 'it returns false'. Refute it at one input. -/
def readyActsWrong : ChangeSpec := { name := "readyActs", fn := fun _ => fun
  | [d] => { results := [.lit (.bool false)], args := [d] }
  | _ => none }
def ReadyActsWrongFalsely : Prop := readyActsRow.holds Try.pinned (OpenSpec.ofChange readyActsWrong)

/-- 'quartermasterlaw11.ReadyFirst': WHATEVER THE INPUT: true; the input reads as it did. -/
def readyFirstSpec : ChangeSpec := { name := "readyFirst", fn := fun _ => fun
  | [d] => { results := [.lit (.bool true)], args := [d] }
  | _ => none }
def readyFirstRow : OpenClaim := { program := "ytncafknmdmoaoaa", sum := "75f6064435e8e07ef3a2b240b4582f6b9c97710ce5e73ae86ab8781d22d90726", func := "quartermaster/quartermasterlaw11.ReadyFirst", spec := "readyFirst", unfollowed := true, recurses := true, apart := false }
def ReadyFirstSaid : Prop := readyFirstRow.holds Try.pinned (OpenSpec.ofChange readyFirstSpec)

/-- ITS FALSE NEIGHBOUR: 'it returns false'. Refute it at one input. -/
def readyFirstWrong : ChangeSpec := { name := "readyFirst", fn := fun _ => fun
  | [d] => { results := [.lit (.bool false)], args := [d] }
  | _ => none }
def ReadyFirstWrongFalsely : Prop := readyFirstRow.holds Try.pinned (OpenSpec.ofChange readyFirstWrong)

/-- 'quartermasterlaw11.ReadyFair': WHATEVER THE INPUT: true; the input reads as it did. -/
def readyFairSpec : ChangeSpec := { name := "readyFair", fn := fun _ => fun
  | [d1, d2, d3] => { results := [.lit (.bool true)], args := [d1, d2, d3] }
  | _ => none }
def readyFairRow : OpenClaim := { program := "ytncafknmdmoaoaa", sum := "75f6064435e8e07ef3a2b240b4582f6b9c97710ce5e73ae86ab8781d22d90726", func := "quartermaster/quartermasterlaw11.ReadyFair", spec := "readyFair", unfollowed := true, recurses := true, apart := false }
def ReadyFairSaid : Prop := readyFairRow.holds Try.pinned (OpenSpec.ofChange readyFairSpec)

/-- ITS FALSE NEIGHBOUR: 'it returns false'. Refute it at one input. -/
def readyFairWrong : ChangeSpec := { name := "readyFair", fn := fun _ => fun
  | [d1, d2, d3] => { results := [.lit (.bool false)], args := [d1, d2, d3] }
  | _ => none }
def ReadyFairWrongFalsely : Prop := readyFairRow.holds Try.pinned (OpenSpec.ofChange readyFairWrong)

/-- 'quartermasterlaw11.ReadyBack': WHATEVER THE INPUT: true; the input reads as it did. -/
def readyBackSpec : ChangeSpec := { name := "readyBack", fn := fun _ => fun
  | [d1, d2] => { results := [.lit (.bool true)], args := [d1, d2] }
  | _ => none }
def readyBackRow : OpenClaim := { program := "ytncafknmdmoaoaa", sum := "75f6064435e8e07ef3a2b240b4582f6b9c97710ce5e73ae86ab8781d22d90726", func := "quartermaster/quartermasterlaw11.ReadyBack", spec := "readyBack", unfollowed := true, recurses := true, apart := false }
def ReadyBackSaid : Prop := readyBackRow.holds Try.pinned (OpenSpec.ofChange readyBackSpec)

/-- ITS FALSE NEIGHBOUR: 'it returns false'. Refute it at one input. -/
def readyBackWrong : ChangeSpec := { name := "readyBack", fn := fun _ => fun
  | [d1, d2] => { results := [.lit (.bool false)], args := [d1, d2] }
  | _ => none }
def ReadyBackWrongFalsely : Prop := readyBackRow.holds Try.pinned (OpenSpec.ofChange readyBackWrong)

/-- 'quartermasterlaw11.ReadyYields': WHATEVER THE INPUT: true; the input reads as it did. -/
def readyYieldsSpec : ChangeSpec := { name := "readyYields", fn := fun _ => fun
  | [d1, d2, d3] => { results := [.lit (.bool true)], args := [d1, d2, d3] }
  | _ => none }
def readyYieldsRow : OpenClaim := { program := "ytncafknmdmoaoaa", sum := "75f6064435e8e07ef3a2b240b4582f6b9c97710ce5e73ae86ab8781d22d90726", func := "quartermaster/quartermasterlaw11.ReadyYields", spec := "readyYields", unfollowed := true, recurses := true, apart := false }
def ReadyYieldsSaid : Prop := readyYieldsRow.holds Try.pinned (OpenSpec.ofChange readyYieldsSpec)

/-- ITS FALSE NEIGHBOUR: 'it returns false'. Refute it at one input. -/
def readyYieldsWrong : ChangeSpec := { name := "readyYields", fn := fun _ => fun
  | [d1, d2, d3] => { results := [.lit (.bool false)], args := [d1, d2, d3] }
  | _ => none }
def ReadyYieldsWrongFalsely : Prop := readyYieldsRow.holds Try.pinned (OpenSpec.ofChange readyYieldsWrong)

/-- 'quartermasterlaw11.ReadyApart': WHATEVER THE INPUT: true; the input reads as it did. -/
def readyApartSpec : ChangeSpec := { name := "readyApart", fn := fun _ => fun
  | [d1, d2] => { results := [.lit (.bool true)], args := [d1, d2] }
  | _ => none }
def readyApartRow : OpenClaim := { program := "ytncafknmdmoaoaa", sum := "75f6064435e8e07ef3a2b240b4582f6b9c97710ce5e73ae86ab8781d22d90726", func := "quartermaster/quartermasterlaw11.ReadyApart", spec := "readyApart", unfollowed := true, recurses := true, apart := false }
def ReadyApartSaid : Prop := readyApartRow.holds Try.pinned (OpenSpec.ofChange readyApartSpec)

/-- ITS FALSE NEIGHBOUR: 'it returns false'. Refute it at one input. -/
def readyApartWrong : ChangeSpec := { name := "readyApart", fn := fun _ => fun
  | [d1, d2] => { results := [.lit (.bool false)], args := [d1, d2] }
  | _ => none }
def ReadyApartWrongFalsely : Prop := readyApartRow.holds Try.pinned (OpenSpec.ofChange readyApartWrong)

/-- 'quartermasterlaw11.ReadyDrops': WHATEVER THE INPUT: true; the input reads as it did. -/
def readyDropsSpec : ChangeSpec := { name := "readyDrops", fn := fun _ => fun
  | [d1, d2] => { results := [.lit (.bool true)], args := [d1, d2] }
  | _ => none }
def readyDropsRow : OpenClaim := { program := "ytncafknmdmoaoaa", sum := "75f6064435e8e07ef3a2b240b4582f6b9c97710ce5e73ae86ab8781d22d90726", func := "quartermaster/quartermasterlaw11.ReadyDrops", spec := "readyDrops", unfollowed := true, recurses := true, apart := false }
def ReadyDropsSaid : Prop := readyDropsRow.holds Try.pinned (OpenSpec.ofChange readyDropsSpec)

/-- ITS FALSE NEIGHBOUR: 'it returns false'. Refute it at one input. -/
def readyDropsWrong : ChangeSpec := { name := "readyDrops", fn := fun _ => fun
  | [d1, d2] => { results := [.lit (.bool false)], args := [d1, d2] }
  | _ => none }
def ReadyDropsWrongFalsely : Prop := readyDropsRow.holds Try.pinned (OpenSpec.ofChange readyDropsWrong)

/- THE SECOND FORM. 'bulk': how many values and letters a reading holds, each counted each time it is reached (what is shared counts as often as it is met; a slice's spare places count too). A statement '..UptoSaid' is the law's where the arguments, and the package variables that the reading takes, are together of bulk at most 1048576: NARROWER than '..Said'. Prove '..Said' where nothing that the law and all that it calls make is longer than what came in: it says more and counts as full. Else prove '..UptoSaid'. A law counts once. -/
mutual
def uptoBulk {H : Type} : DataW H → Nat
  | .lit (.string bytes) => bytes.length + 1
  | .lit _ => 1
  | .nil => 1
  | .ptr d => uptoBulk d + 1
  | .slice elems spare => uptoBulkAll elems + uptoBulkAll spare + 1
  | .agg parts => uptoBulkAll parts + 1
  | .iface _ d => uptoBulk d + 1
  | .map entries => uptoBulkEntries entries + 1
  | .held _ => 1
def uptoBulkAll {H : Type} : List (DataW H) → Nat
  | [] => 0
  | d :: r => uptoBulk d + uptoBulkAll r
def uptoBulkEntries {H : Type} : List (Lit × DataW H) → Nat
  | [] => 0
  | x :: r => uptoBulkEntry x + uptoBulkEntries r
def uptoBulkEntry {H : Type} : Lit × DataW H → Nat
  | (.string bytes, d) => bytes.length + uptoBulk d + 1
  | (_, d) => uptoBulk d + 1
 end
def uptoSmall : (H : Type) → List (DataW H) → Bool := fun _ ds => decide (uptoBulkAll ds ≤ 1048576)
def OpenSpec.upto (s : _root_.Go.ChangeSpec) : _root_.Go.OpenSpec := { _root_.Go.OpenSpec.ofChange s with cond := some uptoSmall }

/-- 'quartermasterlaw11.ReadyActs', WHERE WHAT IT READS IS OF BULK AT MOST 1048576: true; the input reads as it did. -/
def readyActsUptoRow : OpenClaim := { program := "ytncafknmdmoaoaa", sum := "75f6064435e8e07ef3a2b240b4582f6b9c97710ce5e73ae86ab8781d22d90726", func := "quartermaster/quartermasterlaw11.ReadyActs", spec := "readyActs", unfollowed := true, recurses := true, apart := false, narrowed := true }
def ReadyActsUptoSaid : Prop := readyActsUptoRow.holds Try.pinned (OpenSpec.upto readyActsSpec)

/-- 'quartermasterlaw11.ReadyFirst', WHERE WHAT IT READS IS OF BULK AT MOST 1048576: true; the input reads as it did. -/
def readyFirstUptoRow : OpenClaim := { program := "ytncafknmdmoaoaa", sum := "75f6064435e8e07ef3a2b240b4582f6b9c97710ce5e73ae86ab8781d22d90726", func := "quartermaster/quartermasterlaw11.ReadyFirst", spec := "readyFirst", unfollowed := true, recurses := true, apart := false, narrowed := true }
def ReadyFirstUptoSaid : Prop := readyFirstUptoRow.holds Try.pinned (OpenSpec.upto readyFirstSpec)

/-- 'quartermasterlaw11.ReadyFair', WHERE WHAT IT READS IS OF BULK AT MOST 1048576: true; the input reads as it did. -/
def readyFairUptoRow : OpenClaim := { program := "ytncafknmdmoaoaa", sum := "75f6064435e8e07ef3a2b240b4582f6b9c97710ce5e73ae86ab8781d22d90726", func := "quartermaster/quartermasterlaw11.ReadyFair", spec := "readyFair", unfollowed := true, recurses := true, apart := false, narrowed := true }
def ReadyFairUptoSaid : Prop := readyFairUptoRow.holds Try.pinned (OpenSpec.upto readyFairSpec)

/-- 'quartermasterlaw11.ReadyBack', WHERE WHAT IT READS IS OF BULK AT MOST 1048576: true; the input reads as it did. -/
def readyBackUptoRow : OpenClaim := { program := "ytncafknmdmoaoaa", sum := "75f6064435e8e07ef3a2b240b4582f6b9c97710ce5e73ae86ab8781d22d90726", func := "quartermaster/quartermasterlaw11.ReadyBack", spec := "readyBack", unfollowed := true, recurses := true, apart := false, narrowed := true }
def ReadyBackUptoSaid : Prop := readyBackUptoRow.holds Try.pinned (OpenSpec.upto readyBackSpec)

/-- 'quartermasterlaw11.ReadyYields', WHERE WHAT IT READS IS OF BULK AT MOST 1048576: true; the input reads as it did. -/
def readyYieldsUptoRow : OpenClaim := { program := "ytncafknmdmoaoaa", sum := "75f6064435e8e07ef3a2b240b4582f6b9c97710ce5e73ae86ab8781d22d90726", func := "quartermaster/quartermasterlaw11.ReadyYields", spec := "readyYields", unfollowed := true, recurses := true, apart := false, narrowed := true }
def ReadyYieldsUptoSaid : Prop := readyYieldsUptoRow.holds Try.pinned (OpenSpec.upto readyYieldsSpec)

/-- 'quartermasterlaw11.ReadyApart', WHERE WHAT IT READS IS OF BULK AT MOST 1048576: true; the input reads as it did. -/
def readyApartUptoRow : OpenClaim := { program := "ytncafknmdmoaoaa", sum := "75f6064435e8e07ef3a2b240b4582f6b9c97710ce5e73ae86ab8781d22d90726", func := "quartermaster/quartermasterlaw11.ReadyApart", spec := "readyApart", unfollowed := true, recurses := true, apart := false, narrowed := true }
def ReadyApartUptoSaid : Prop := readyApartUptoRow.holds Try.pinned (OpenSpec.upto readyApartSpec)

/-- 'quartermasterlaw11.ReadyDrops', WHERE WHAT IT READS IS OF BULK AT MOST 1048576: true; the input reads as it did. -/
def readyDropsUptoRow : OpenClaim := { program := "ytncafknmdmoaoaa", sum := "75f6064435e8e07ef3a2b240b4582f6b9c97710ce5e73ae86ab8781d22d90726", func := "quartermaster/quartermasterlaw11.ReadyDrops", spec := "readyDrops", unfollowed := true, recurses := true, apart := false, narrowed := true }
def ReadyDropsUptoSaid : Prop := readyDropsUptoRow.holds Try.pinned (OpenSpec.upto readyDropsSpec)

end Rows
end Go.Proofs.Ytncafknmdmoaoaa
