/-
  No cell of these rows narrows 'for every input' (looked for: loops, veiled, ifaces, maps, wideKeys, modest, calm, conditions, laid).
  DERIVED. THE GIVEN ROWS OF THIS SEAT. 5 by the template 'for every input the law returns true; each argument reads behind the call as it read before'; 0 by the template 'total and deterministic' (their statements: YtmffldmipddngaaTotals.lean).
  GIVEN WITH THE SEED: the statements are not yours to turn. If you find one false, say at which input.
  Laid BY PROGRAM, IN A SANDBOX (cutbox-rows.mjs): the forced cells as the released guide's own fill.sh prints them over the translation e0764f3da2ffd569… (all of the seat's roots in one cut). By AI agents, Wed Nov 11 2026. No macro, syntax, notation, axiom, sorry.
-/
import Derived.Test.YtmffldmipddngaaChecked
import GoSem.Claim
import GoSem.ClaimJoined
import GoSem.ClaimMapViews
import Derived.JoinedTies
import Derived.KernelRfl
namespace Go.Proofs.Ytmffldmipddngaa
/- THE CELL 'sum', in the pinned program and in every row, IS THE sha256 OF THE DUMP (.gsa) THAT YtmffldmipddngaaProg.lean LOADS. Nothing in Lean hashes anything: it is a label: what it is worth is what the hold of that sum in a sandbox is worth. -/
noncomputable def Try.pinned : Pinned := { name := "ytmffldmipddngaa", sum := "e0764f3da2ffd56917085601762b795412267b85210405544c202dc585f8d5c6", checked := Try.checked }
namespace Rows
def none {H : Type} : Left H := { results := [], args := [] }

/-- 'quartermasterlaw05.QuotaChain': WHATEVER THE INPUT: true; the input reads as it did. -/
def quotaChainSpec : ChangeSpec := { name := "quotaChain", fn := fun _ => fun
  | [d1, d2] => { results := [.lit (.bool true)], args := [d1, d2] }
  | _ => none }
def quotaChainRow : OpenClaim := { program := "ytmffldmipddngaa", sum := "e0764f3da2ffd56917085601762b795412267b85210405544c202dc585f8d5c6", func := "quartermaster/quartermasterlaw05.QuotaChain", spec := "quotaChain", unfollowed := true, recurses := true, apart := false }
def QuotaChainSaid : Prop := quotaChainRow.holds Try.pinned (OpenSpec.ofChange quotaChainSpec)

/-- ITS FALSE NEIGHBOUR: 'it returns false'. Refute it at one input. -/
def quotaChainWrong : ChangeSpec := { name := "quotaChain", fn := fun _ => fun
  | [d1, d2] => { results := [.lit (.bool false)], args := [d1, d2] }
  | _ => none }
def QuotaChainWrongFalsely : Prop := quotaChainRow.holds Try.pinned (OpenSpec.ofChange quotaChainWrong)

/-- 'quartermasterlaw05.QuotaBack': WHATEVER THE INPUT: true; the input reads as it did. -/
def quotaBackSpec : ChangeSpec := { name := "quotaBack", fn := fun _ => fun
  | [d1, d2, d3, d4] => { results := [.lit (.bool true)], args := [d1, d2, d3, d4] }
  | _ => none }
def quotaBackRow : OpenClaim := { program := "ytmffldmipddngaa", sum := "e0764f3da2ffd56917085601762b795412267b85210405544c202dc585f8d5c6", func := "quartermaster/quartermasterlaw05.QuotaBack", spec := "quotaBack", unfollowed := true, recurses := true, apart := false }
def QuotaBackSaid : Prop := quotaBackRow.holds Try.pinned (OpenSpec.ofChange quotaBackSpec)

/-- ITS FALSE NEIGHBOUR: 'it returns false'. Refute it at one input. -/
def quotaBackWrong : ChangeSpec := { name := "quotaBack", fn := fun _ => fun
  | [d1, d2, d3, d4] => { results := [.lit (.bool false)], args := [d1, d2, d3, d4] }
  | _ => none }
def QuotaBackWrongFalsely : Prop := quotaBackRow.holds Try.pinned (OpenSpec.ofChange quotaBackWrong)

/-- 'quartermasterlaw05.QuotaActs': WHATEVER THE INPUT: true; the input reads as it did. -/
def quotaActsSpec : ChangeSpec := { name := "quotaActs", fn := fun _ => fun
  | [d1, d2] => { results := [.lit (.bool true)], args := [d1, d2] }
  | _ => none }
def quotaActsRow : OpenClaim := { program := "ytmffldmipddngaa", sum := "e0764f3da2ffd56917085601762b795412267b85210405544c202dc585f8d5c6", func := "quartermaster/quartermasterlaw05.QuotaActs", spec := "quotaActs", unfollowed := true, recurses := true, apart := false }
def QuotaActsSaid : Prop := quotaActsRow.holds Try.pinned (OpenSpec.ofChange quotaActsSpec)

/-- ITS FALSE NEIGHBOUR: 'it returns false'. Refute it at one input. -/
def quotaActsWrong : ChangeSpec := { name := "quotaActs", fn := fun _ => fun
  | [d1, d2] => { results := [.lit (.bool false)], args := [d1, d2] }
  | _ => none }
def QuotaActsWrongFalsely : Prop := quotaActsRow.holds Try.pinned (OpenSpec.ofChange quotaActsWrong)

/-- 'quartermasterlaw05.QuotaNever': WHATEVER THE INPUT: true; the input reads as it did. -/
def quotaNeverSpec : ChangeSpec := { name := "quotaNever", fn := fun _ => fun
  | [d1, d2] => { results := [.lit (.bool true)], args := [d1, d2] }
  | _ => none }
def quotaNeverRow : OpenClaim := { program := "ytmffldmipddngaa", sum := "e0764f3da2ffd56917085601762b795412267b85210405544c202dc585f8d5c6", func := "quartermaster/quartermasterlaw05.QuotaNever", spec := "quotaNever", unfollowed := true, recurses := true, apart := false }
def QuotaNeverSaid : Prop := quotaNeverRow.holds Try.pinned (OpenSpec.ofChange quotaNeverSpec)

/-- ITS FALSE NEIGHBOUR: 'it returns false'. Refute it at one input. -/
def quotaNeverWrong : ChangeSpec := { name := "quotaNever", fn := fun _ => fun
  | [d1, d2] => { results := [.lit (.bool false)], args := [d1, d2] }
  | _ => none }
def QuotaNeverWrongFalsely : Prop := quotaNeverRow.holds Try.pinned (OpenSpec.ofChange quotaNeverWrong)

/-- 'quartermasterlaw05.QuotaExact': WHATEVER THE INPUT: true; the input reads as it did. -/
def quotaExactSpec : ChangeSpec := { name := "quotaExact", fn := fun _ => fun
  | [d1, d2, d3] => { results := [.lit (.bool true)], args := [d1, d2, d3] }
  | _ => none }
def quotaExactRow : OpenClaim := { program := "ytmffldmipddngaa", sum := "e0764f3da2ffd56917085601762b795412267b85210405544c202dc585f8d5c6", func := "quartermaster/quartermasterlaw05.QuotaExact", spec := "quotaExact", unfollowed := true, recurses := true, apart := false }
def QuotaExactSaid : Prop := quotaExactRow.holds Try.pinned (OpenSpec.ofChange quotaExactSpec)

/-- ITS FALSE NEIGHBOUR: 'it returns false'. Refute it at one input. -/
def quotaExactWrong : ChangeSpec := { name := "quotaExact", fn := fun _ => fun
  | [d1, d2, d3] => { results := [.lit (.bool false)], args := [d1, d2, d3] }
  | _ => none }
def QuotaExactWrongFalsely : Prop := quotaExactRow.holds Try.pinned (OpenSpec.ofChange quotaExactWrong)

/- THE SECOND FORM. 'bulk': how many values and letters a reading holds, each counted each time it is reached (what is shared counts as often as it is met; a slice's spare places count too). A statement '..UptoSaid' is the law's where the arguments, and the package variables that the reading takes, are together of bulk at most 1048576: NARROWER than '..Said'. Prove '..Said' where nothing that the law and all that it calls make is longer than what came in: it says more and counts as full. Else prove '..UptoSaid'. A law counts once. -/
mutual
def uptoBulk {H : Type} : DataW H → Nat
  | .lit (.string bytes) => bytes.length + 1
  | .lit _ => 1
  | .nil => 1
  | .ptr d => uptoBulk d + 1
  | .slice elems spare => uptoBulkAll elems + uptoBulkAll spare + 1
  | .agg parts => uptoBulkAll parts + 1
  | .iface _ d => uptoBulk d + 1
  | .map entries => uptoBulkEntries entries + 1
  | .held _ => 1
def uptoBulkAll {H : Type} : List (DataW H) → Nat
  | [] => 0
  | d :: r => uptoBulk d + uptoBulkAll r
def uptoBulkEntries {H : Type} : List (Lit × DataW H) → Nat
  | [] => 0
  | x :: r => uptoBulkEntry x + uptoBulkEntries r
def uptoBulkEntry {H : Type} : Lit × DataW H → Nat
  | (.string bytes, d) => bytes.length + uptoBulk d + 1
  | (_, d) => uptoBulk d + 1
 end
def uptoSmall : (H : Type) → List (DataW H) → Bool := fun _ ds => decide (uptoBulkAll ds ≤ 1048576)
def OpenSpec.upto (s : _root_.Go.ChangeSpec) : _root_.Go.OpenSpec := { _root_.Go.OpenSpec.ofChange s with cond := some uptoSmall }

/-- 'quartermasterlaw05.QuotaChain', WHERE WHAT IT READS IS OF BULK AT MOST 1048576: true; the input reads as it did. -/
def quotaChainUptoRow : OpenClaim := { program := "ytmffldmipddngaa", sum := "e0764f3da2ffd56917085601762b795412267b85210405544c202dc585f8d5c6", func := "quartermaster/quartermasterlaw05.QuotaChain", spec := "quotaChain", unfollowed := true, recurses := true, apart := false, narrowed := true }
def QuotaChainUptoSaid : Prop := quotaChainUptoRow.holds Try.pinned (OpenSpec.upto quotaChainSpec)

/-- 'quartermasterlaw05.QuotaBack', WHERE WHAT IT READS IS OF BULK AT MOST 1048576: true; the input reads as it did. -/
def quotaBackUptoRow : OpenClaim := { program := "ytmffldmipddngaa", sum := "e0764f3da2ffd56917085601762b795412267b85210405544c202dc585f8d5c6", func := "quartermaster/quartermasterlaw05.QuotaBack", spec := "quotaBack", unfollowed := true, recurses := true, apart := false, narrowed := true }
def QuotaBackUptoSaid : Prop := quotaBackUptoRow.holds Try.pinned (OpenSpec.upto quotaBackSpec)

/-- 'quartermasterlaw05.QuotaActs', WHERE WHAT IT READS IS OF BULK AT MOST 1048576: true; the input reads as it did. -/
def quotaActsUptoRow : OpenClaim := { program := "ytmffldmipddngaa", sum := "e0764f3da2ffd56917085601762b795412267b85210405544c202dc585f8d5c6", func := "quartermaster/quartermasterlaw05.QuotaActs", spec := "quotaActs", unfollowed := true, recurses := true, apart := false, narrowed := true }
def QuotaActsUptoSaid : Prop := quotaActsUptoRow.holds Try.pinned (OpenSpec.upto quotaActsSpec)

/-- 'quartermasterlaw05.QuotaNever', WHERE WHAT IT READS IS OF BULK AT MOST 1048576: true; the input reads as it did. -/
def quotaNeverUptoRow : OpenClaim := { program := "ytmffldmipddngaa", sum := "e0764f3da2ffd56917085601762b795412267b85210405544c202dc585f8d5c6", func := "quartermaster/quartermasterlaw05.QuotaNever", spec := "quotaNever", unfollowed := true, recurses := true, apart := false, narrowed := true }
def QuotaNeverUptoSaid : Prop := quotaNeverUptoRow.holds Try.pinned (OpenSpec.upto quotaNeverSpec)

/-- 'quartermasterlaw05.QuotaExact', WHERE WHAT IT READS IS OF BULK AT MOST 1048576: true; the input reads as it did. -/
def quotaExactUptoRow : OpenClaim := { program := "ytmffldmipddngaa", sum := "e0764f3da2ffd56917085601762b795412267b85210405544c202dc585f8d5c6", func := "quartermaster/quartermasterlaw05.QuotaExact", spec := "quotaExact", unfollowed := true, recurses := true, apart := false, narrowed := true }
def QuotaExactUptoSaid : Prop := quotaExactUptoRow.holds Try.pinned (OpenSpec.upto quotaExactSpec)

end Rows
end Go.Proofs.Ytmffldmipddngaa
