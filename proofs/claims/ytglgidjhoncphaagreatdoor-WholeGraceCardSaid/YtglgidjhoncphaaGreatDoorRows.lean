/-
  NARROWER THAN 'FOR EVERY INPUT', by the rows' own cells (each row's printed sentence says how): WholeKills: laid · WholeUnmap: laid · WholeTables: laid · WholeGrace: laid · WholeCharge: laid.
  DERIVED. THE GIVEN ROWS OF THIS SEAT. 5 by the template 'for every input the law returns true; each argument reads behind the call as it read before'; 0 by the template 'total and deterministic' (their statements: YtglgidjhoncphaaGreatDoorTotals.lean).
  GIVEN WITH THE SEED: the statements are not yours to turn. If you find one false, say at which input.
  Laid BY PROGRAM, IN A SANDBOX (cutbox-rows.mjs): the forced cells as the released guide's own fill.sh prints them over the translation 42f4bc0f29eab1d2… (all of the seat's roots in one cut). By AI agents, Wed Nov 11 2026. No macro, syntax, notation, axiom, sorry.
-/
import Derived.Test.YtglgidjhoncphaaGreatDoorChecked
import GoSem.Claim
import GoSem.ClaimJoined
import GoSem.ClaimMapViews
import Derived.JoinedTies
import Derived.KernelRfl
namespace Go.Proofs.YtglgidjhoncphaaGreatDoor
/- THE CELL 'sum', in the pinned program and in every row, IS THE sha256 OF THE DUMP (.gsa) THAT YtglgidjhoncphaaGreatDoorProg.lean LOADS. Nothing in Lean hashes anything: it is a label: what it is worth is what the hold of that sum in a sandbox is worth. -/
noncomputable def Tryz.pinned : Pinned := { name := "ytglgidjhoncphaagreatdoor", sum := "42f4bc0f29eab1d208c0029c3d50b38304458bf4645524f5ec774663dcec653b", checked := Tryz.checked }
namespace Rows
def none {H : Type} : Left H := { results := [], args := [] }

/- WHAT THE LISTED PACKAGE-LEVEL VARIABLES READ AS WHEN THE CALL BEGINS. Each datum BY PROGRAM (the guide's laid-datum.mjs) off the statement by which the dump's own 'gosem.cut.vars' lays the variable. In a bare row this is a premise. The card (YtglgidjhoncphaaGreatDoorCards.lean) ties it to the program's text. -/
def laid_math_bits_deBruijn32tab {H : Type} : DataW H := .agg [.lit (.int .u8 0), .lit (.int .u8 1), .lit (.int .u8 28), .lit (.int .u8 2), .lit (.int .u8 29), .lit (.int .u8 14), .lit (.int .u8 24), .lit (.int .u8 3), .lit (.int .u8 30), .lit (.int .u8 22), .lit (.int .u8 20), .lit (.int .u8 15), .lit (.int .u8 25), .lit (.int .u8 17), .lit (.int .u8 4), .lit (.int .u8 8), .lit (.int .u8 31), .lit (.int .u8 27), .lit (.int .u8 13), .lit (.int .u8 23), .lit (.int .u8 21), .lit (.int .u8 19), .lit (.int .u8 16), .lit (.int .u8 7), .lit (.int .u8 26), .lit (.int .u8 12), .lit (.int .u8 18), .lit (.int .u8 6), .lit (.int .u8 11), .lit (.int .u8 5), .lit (.int .u8 10), .lit (.int .u8 9)]
def laid_math_bits_deBruijn64tab {H : Type} : DataW H := .agg [.lit (.int .u8 0), .lit (.int .u8 1), .lit (.int .u8 56), .lit (.int .u8 2), .lit (.int .u8 57), .lit (.int .u8 49), .lit (.int .u8 28), .lit (.int .u8 3), .lit (.int .u8 61), .lit (.int .u8 58), .lit (.int .u8 42), .lit (.int .u8 50), .lit (.int .u8 38), .lit (.int .u8 29), .lit (.int .u8 17), .lit (.int .u8 4), .lit (.int .u8 62), .lit (.int .u8 47), .lit (.int .u8 59), .lit (.int .u8 36), .lit (.int .u8 45), .lit (.int .u8 43), .lit (.int .u8 51), .lit (.int .u8 22), .lit (.int .u8 53), .lit (.int .u8 39), .lit (.int .u8 33), .lit (.int .u8 30), .lit (.int .u8 24), .lit (.int .u8 18), .lit (.int .u8 12), .lit (.int .u8 5), .lit (.int .u8 63), .lit (.int .u8 55), .lit (.int .u8 48), .lit (.int .u8 27), .lit (.int .u8 60), .lit (.int .u8 41), .lit (.int .u8 37), .lit (.int .u8 16), .lit (.int .u8 46), .lit (.int .u8 35), .lit (.int .u8 44), .lit (.int .u8 21), .lit (.int .u8 52), .lit (.int .u8 32), .lit (.int .u8 23), .lit (.int .u8 11), .lit (.int .u8 54), .lit (.int .u8 26), .lit (.int .u8 40), .lit (.int .u8 15), .lit (.int .u8 34), .lit (.int .u8 20), .lit (.int .u8 31), .lit (.int .u8 10), .lit (.int .u8 25), .lit (.int .u8 14), .lit (.int .u8 19), .lit (.int .u8 9), .lit (.int .u8 13), .lit (.int .u8 8), .lit (.int .u8 7), .lit (.int .u8 6)]
def laid_quartermaster_pool_costs {H : Type} : DataW H := .agg [.lit (.int .i64 0), .lit (.int .i64 64), .lit (.int .i64 128), .lit (.int .i64 256), .lit (.int .i64 32), .lit (.int .i64 32), .lit (.int .i64 48), .lit (.int .i64 256)]
def laid_quartermaster_calls_table {H : Type} : DataW H := .agg [.agg [.lit (.int .i64 0), .lit (.int .i64 0), .lit (.bool false)], .agg [.lit (.int .i64 1), .lit (.int .i64 1), .lit (.bool true)], .agg [.lit (.int .i64 0), .lit (.int .i64 8), .lit (.bool true)], .agg [.lit (.int .i64 3), .lit (.int .i64 2), .lit (.bool true)], .agg [.lit (.int .i64 3), .lit (.int .i64 2), .lit (.bool true)], .agg [.lit (.int .i64 4), .lit (.int .i64 2), .lit (.bool true)], .agg [.lit (.int .i64 5), .lit (.int .i64 2), .lit (.bool true)], .agg [.lit (.int .i64 5), .lit (.int .i64 2), .lit (.bool true)], .agg [.lit (.int .i64 5), .lit (.int .i64 2), .lit (.bool true)], .agg [.lit (.int .i64 5), .lit (.int .i64 1), .lit (.bool true)], .agg [.lit (.int .i64 4), .lit (.int .i64 1), .lit (.bool true)], .agg [.lit (.int .i64 0), .lit (.int .i64 0), .lit (.bool false)], .agg [.lit (.int .i64 0), .lit (.int .i64 0), .lit (.bool false)], .agg [.lit (.int .i64 0), .lit (.int .i64 0), .lit (.bool false)], .agg [.lit (.int .i64 0), .lit (.int .i64 0), .lit (.bool false)], .agg [.lit (.int .i64 2), .lit (.int .i64 2), .lit (.bool true)], .agg [.lit (.int .i64 0), .lit (.int .i64 0), .lit (.bool true)], .agg [.lit (.int .i64 8), .lit (.int .i64 1), .lit (.bool true)], .agg [.lit (.int .i64 8), .lit (.int .i64 2), .lit (.bool true)]]

/-- 'quartermastertop.WholeKills': WHATEVER THE INPUT: true; the input reads as it did. -/
def wholeKillsSpec : ChangeSpec := { name := "wholeKills", fn := fun _ => fun
  | [d1, d2, d3] => { results := [.lit (.bool true)], args := [d1, d2, d3] }
  | _ => none }
def wholeKillsRow : OpenClaim := { program := "ytglgidjhoncphaagreatdoor", sum := "42f4bc0f29eab1d208c0029c3d50b38304458bf4645524f5ec774663dcec653b", func := "quartermaster/quartermastertop.WholeKills", spec := "wholeKills", inPlace := ["slices.overlaps[quartermaster/slab.page]"], unfollowed := true, recurses := true, named := ["quartermaster/pool.costs", "math/bits.deBruijn32tab", "math/bits.deBruijn64tab", "quartermaster/calls.table"], plainKeys := false, apart := false, laid := [("math/bits.deBruijn32tab", laid_math_bits_deBruijn32tab), ("math/bits.deBruijn64tab", laid_math_bits_deBruijn64tab), ("quartermaster/pool.costs", laid_quartermaster_pool_costs), ("quartermaster/calls.table", laid_quartermaster_calls_table)] }
def WholeKillsSaid : Prop := wholeKillsRow.holds Tryz.pinned (OpenSpec.ofChange wholeKillsSpec)

/-- ITS FALSE NEIGHBOUR: 'it returns false'. Refute it at one input. -/
def wholeKillsWrong : ChangeSpec := { name := "wholeKills", fn := fun _ => fun
  | [d1, d2, d3] => { results := [.lit (.bool false)], args := [d1, d2, d3] }
  | _ => none }
def WholeKillsWrongFalsely : Prop := wholeKillsRow.holds Tryz.pinned (OpenSpec.ofChange wholeKillsWrong)

/-- 'quartermastertop.WholeUnmap': WHATEVER THE INPUT: true; the input reads as it did. -/
def wholeUnmapSpec : ChangeSpec := { name := "wholeUnmap", fn := fun _ => fun
  | [d1, d2, d3, d4] => { results := [.lit (.bool true)], args := [d1, d2, d3, d4] }
  | _ => none }
def wholeUnmapRow : OpenClaim := { program := "ytglgidjhoncphaagreatdoor", sum := "42f4bc0f29eab1d208c0029c3d50b38304458bf4645524f5ec774663dcec653b", func := "quartermaster/quartermastertop.WholeUnmap", spec := "wholeUnmap", inPlace := ["slices.overlaps[quartermaster/slab.page]"], unfollowed := true, recurses := true, named := ["quartermaster/pool.costs", "math/bits.deBruijn32tab", "math/bits.deBruijn64tab", "quartermaster/calls.table"], plainKeys := false, apart := false, laid := [("math/bits.deBruijn32tab", laid_math_bits_deBruijn32tab), ("math/bits.deBruijn64tab", laid_math_bits_deBruijn64tab), ("quartermaster/pool.costs", laid_quartermaster_pool_costs), ("quartermaster/calls.table", laid_quartermaster_calls_table)] }
def WholeUnmapSaid : Prop := wholeUnmapRow.holds Tryz.pinned (OpenSpec.ofChange wholeUnmapSpec)

/-- ITS FALSE NEIGHBOUR: 'it returns false'. Refute it at one input. -/
def wholeUnmapWrong : ChangeSpec := { name := "wholeUnmap", fn := fun _ => fun
  | [d1, d2, d3, d4] => { results := [.lit (.bool false)], args := [d1, d2, d3, d4] }
  | _ => none }
def WholeUnmapWrongFalsely : Prop := wholeUnmapRow.holds Tryz.pinned (OpenSpec.ofChange wholeUnmapWrong)

/-- 'quartermastertop.WholeTables': WHATEVER THE INPUT: true; the input reads as it did. -/
def wholeTablesSpec : ChangeSpec := { name := "wholeTables", fn := fun _ => fun
  | [d1, d2] => { results := [.lit (.bool true)], args := [d1, d2] }
  | _ => none }
def wholeTablesRow : OpenClaim := { program := "ytglgidjhoncphaagreatdoor", sum := "42f4bc0f29eab1d208c0029c3d50b38304458bf4645524f5ec774663dcec653b", func := "quartermaster/quartermastertop.WholeTables", spec := "wholeTables", inPlace := ["slices.overlaps[quartermaster/slab.page]"], unfollowed := true, recurses := true, named := ["quartermaster/pool.costs", "math/bits.deBruijn32tab", "math/bits.deBruijn64tab", "quartermaster/calls.table"], plainKeys := false, apart := false, laid := [("math/bits.deBruijn32tab", laid_math_bits_deBruijn32tab), ("math/bits.deBruijn64tab", laid_math_bits_deBruijn64tab), ("quartermaster/pool.costs", laid_quartermaster_pool_costs), ("quartermaster/calls.table", laid_quartermaster_calls_table)] }
def WholeTablesSaid : Prop := wholeTablesRow.holds Tryz.pinned (OpenSpec.ofChange wholeTablesSpec)

/-- ITS FALSE NEIGHBOUR: 'it returns false'. Refute it at one input. -/
def wholeTablesWrong : ChangeSpec := { name := "wholeTables", fn := fun _ => fun
  | [d1, d2] => { results := [.lit (.bool false)], args := [d1, d2] }
  | _ => none }
def WholeTablesWrongFalsely : Prop := wholeTablesRow.holds Tryz.pinned (OpenSpec.ofChange wholeTablesWrong)

/-- 'quartermastertop.WholeGrace': WHATEVER THE INPUT: true; the input reads as it did. -/
def wholeGraceSpec : ChangeSpec := { name := "wholeGrace", fn := fun _ => fun
  | [d1, d2] => { results := [.lit (.bool true)], args := [d1, d2] }
  | _ => none }
def wholeGraceRow : OpenClaim := { program := "ytglgidjhoncphaagreatdoor", sum := "42f4bc0f29eab1d208c0029c3d50b38304458bf4645524f5ec774663dcec653b", func := "quartermaster/quartermastertop.WholeGrace", spec := "wholeGrace", inPlace := ["slices.overlaps[quartermaster/slab.page]"], unfollowed := true, recurses := true, named := ["quartermaster/pool.costs", "math/bits.deBruijn32tab", "math/bits.deBruijn64tab", "quartermaster/calls.table"], plainKeys := false, apart := false, laid := [("math/bits.deBruijn32tab", laid_math_bits_deBruijn32tab), ("math/bits.deBruijn64tab", laid_math_bits_deBruijn64tab), ("quartermaster/pool.costs", laid_quartermaster_pool_costs), ("quartermaster/calls.table", laid_quartermaster_calls_table)] }
def WholeGraceSaid : Prop := wholeGraceRow.holds Tryz.pinned (OpenSpec.ofChange wholeGraceSpec)

/-- ITS FALSE NEIGHBOUR: 'it returns false'. Refute it at one input. -/
def wholeGraceWrong : ChangeSpec := { name := "wholeGrace", fn := fun _ => fun
  | [d1, d2] => { results := [.lit (.bool false)], args := [d1, d2] }
  | _ => none }
def WholeGraceWrongFalsely : Prop := wholeGraceRow.holds Tryz.pinned (OpenSpec.ofChange wholeGraceWrong)

/-- 'quartermastertop.WholeCharge': WHATEVER THE INPUT: true; the input reads as it did. -/
def wholeChargeSpec : ChangeSpec := { name := "wholeCharge", fn := fun _ => fun
  | [d1, d2] => { results := [.lit (.bool true)], args := [d1, d2] }
  | _ => none }
def wholeChargeRow : OpenClaim := { program := "ytglgidjhoncphaagreatdoor", sum := "42f4bc0f29eab1d208c0029c3d50b38304458bf4645524f5ec774663dcec653b", func := "quartermaster/quartermastertop.WholeCharge", spec := "wholeCharge", inPlace := ["slices.overlaps[quartermaster/slab.page]"], unfollowed := true, recurses := true, named := ["quartermaster/pool.costs", "math/bits.deBruijn32tab", "math/bits.deBruijn64tab", "quartermaster/calls.table"], plainKeys := false, apart := false, laid := [("math/bits.deBruijn32tab", laid_math_bits_deBruijn32tab), ("math/bits.deBruijn64tab", laid_math_bits_deBruijn64tab), ("quartermaster/pool.costs", laid_quartermaster_pool_costs), ("quartermaster/calls.table", laid_quartermaster_calls_table)] }
def WholeChargeSaid : Prop := wholeChargeRow.holds Tryz.pinned (OpenSpec.ofChange wholeChargeSpec)

/-- ITS FALSE NEIGHBOUR: 'it returns false'. Refute it at one input. -/
def wholeChargeWrong : ChangeSpec := { name := "wholeCharge", fn := fun _ => fun
  | [d1, d2] => { results := [.lit (.bool false)], args := [d1, d2] }
  | _ => none }
def WholeChargeWrongFalsely : Prop := wholeChargeRow.holds Tryz.pinned (OpenSpec.ofChange wholeChargeWrong)

/- THE SECOND FORM. 'bulk': how many values and letters a reading holds, each counted each time it is reached (what is shared counts as often as it is met; a slice's spare places count too). A statement '..UptoSaid' is the law's where the arguments, and the package variables that the reading takes, are together of bulk at most 1048576: NARROWER than '..Said'. Prove '..Said' where nothing that the law and all that it calls make is longer than what came in: it says more and counts as full. Else prove '..UptoSaid'. A law counts once. -/
mutual
def uptoBulk {H : Type} : DataW H → Nat
  | .lit (.string bytes) => bytes.length + 1
  | .lit _ => 1
  | .nil => 1
  | .ptr d => uptoBulk d + 1
  | .slice elems spare => uptoBulkAll elems + uptoBulkAll spare + 1
  | .agg parts => uptoBulkAll parts + 1
  | .iface _ d => uptoBulk d + 1
  | .map entries => uptoBulkEntries entries + 1
  | .held _ => 1
def uptoBulkAll {H : Type} : List (DataW H) → Nat
  | [] => 0
  | d :: r => uptoBulk d + uptoBulkAll r
def uptoBulkEntries {H : Type} : List (Lit × DataW H) → Nat
  | [] => 0
  | x :: r => uptoBulkEntry x + uptoBulkEntries r
def uptoBulkEntry {H : Type} : Lit × DataW H → Nat
  | (.string bytes, d) => bytes.length + uptoBulk d + 1
  | (_, d) => uptoBulk d + 1
 end
def uptoSmall : (H : Type) → List (DataW H) → Bool := fun _ ds => decide (uptoBulkAll ds ≤ 1048576)
def OpenSpec.upto (s : _root_.Go.ChangeSpec) : _root_.Go.OpenSpec := { _root_.Go.OpenSpec.ofChange s with cond := some uptoSmall }

/-- 'quartermastertop.WholeKills', WHERE WHAT IT READS IS OF BULK AT MOST 1048576: true; the input reads as it did. -/
def wholeKillsUptoRow : OpenClaim := { program := "ytglgidjhoncphaagreatdoor", sum := "42f4bc0f29eab1d208c0029c3d50b38304458bf4645524f5ec774663dcec653b", func := "quartermaster/quartermastertop.WholeKills", spec := "wholeKills", inPlace := ["slices.overlaps[quartermaster/slab.page]"], unfollowed := true, recurses := true, named := ["quartermaster/pool.costs", "math/bits.deBruijn32tab", "math/bits.deBruijn64tab", "quartermaster/calls.table"], plainKeys := false, apart := false, laid := [("math/bits.deBruijn32tab", laid_math_bits_deBruijn32tab), ("math/bits.deBruijn64tab", laid_math_bits_deBruijn64tab), ("quartermaster/pool.costs", laid_quartermaster_pool_costs), ("quartermaster/calls.table", laid_quartermaster_calls_table)], narrowed := true }
def WholeKillsUptoSaid : Prop := wholeKillsUptoRow.holds Tryz.pinned (OpenSpec.upto wholeKillsSpec)

/-- 'quartermastertop.WholeUnmap', WHERE WHAT IT READS IS OF BULK AT MOST 1048576: true; the input reads as it did. -/
def wholeUnmapUptoRow : OpenClaim := { program := "ytglgidjhoncphaagreatdoor", sum := "42f4bc0f29eab1d208c0029c3d50b38304458bf4645524f5ec774663dcec653b", func := "quartermaster/quartermastertop.WholeUnmap", spec := "wholeUnmap", inPlace := ["slices.overlaps[quartermaster/slab.page]"], unfollowed := true, recurses := true, named := ["quartermaster/pool.costs", "math/bits.deBruijn32tab", "math/bits.deBruijn64tab", "quartermaster/calls.table"], plainKeys := false, apart := false, laid := [("math/bits.deBruijn32tab", laid_math_bits_deBruijn32tab), ("math/bits.deBruijn64tab", laid_math_bits_deBruijn64tab), ("quartermaster/pool.costs", laid_quartermaster_pool_costs), ("quartermaster/calls.table", laid_quartermaster_calls_table)], narrowed := true }
def WholeUnmapUptoSaid : Prop := wholeUnmapUptoRow.holds Tryz.pinned (OpenSpec.upto wholeUnmapSpec)

/-- 'quartermastertop.WholeTables', WHERE WHAT IT READS IS OF BULK AT MOST 1048576: true; the input reads as it did. -/
def wholeTablesUptoRow : OpenClaim := { program := "ytglgidjhoncphaagreatdoor", sum := "42f4bc0f29eab1d208c0029c3d50b38304458bf4645524f5ec774663dcec653b", func := "quartermaster/quartermastertop.WholeTables", spec := "wholeTables", inPlace := ["slices.overlaps[quartermaster/slab.page]"], unfollowed := true, recurses := true, named := ["quartermaster/pool.costs", "math/bits.deBruijn32tab", "math/bits.deBruijn64tab", "quartermaster/calls.table"], plainKeys := false, apart := false, laid := [("math/bits.deBruijn32tab", laid_math_bits_deBruijn32tab), ("math/bits.deBruijn64tab", laid_math_bits_deBruijn64tab), ("quartermaster/pool.costs", laid_quartermaster_pool_costs), ("quartermaster/calls.table", laid_quartermaster_calls_table)], narrowed := true }
def WholeTablesUptoSaid : Prop := wholeTablesUptoRow.holds Tryz.pinned (OpenSpec.upto wholeTablesSpec)

/-- 'quartermastertop.WholeGrace', WHERE WHAT IT READS IS OF BULK AT MOST 1048576: true; the input reads as it did. -/
def wholeGraceUptoRow : OpenClaim := { program := "ytglgidjhoncphaagreatdoor", sum := "42f4bc0f29eab1d208c0029c3d50b38304458bf4645524f5ec774663dcec653b", func := "quartermaster/quartermastertop.WholeGrace", spec := "wholeGrace", inPlace := ["slices.overlaps[quartermaster/slab.page]"], unfollowed := true, recurses := true, named := ["quartermaster/pool.costs", "math/bits.deBruijn32tab", "math/bits.deBruijn64tab", "quartermaster/calls.table"], plainKeys := false, apart := false, laid := [("math/bits.deBruijn32tab", laid_math_bits_deBruijn32tab), ("math/bits.deBruijn64tab", laid_math_bits_deBruijn64tab), ("quartermaster/pool.costs", laid_quartermaster_pool_costs), ("quartermaster/calls.table", laid_quartermaster_calls_table)], narrowed := true }
def WholeGraceUptoSaid : Prop := wholeGraceUptoRow.holds Tryz.pinned (OpenSpec.upto wholeGraceSpec)

/-- 'quartermastertop.WholeCharge', WHERE WHAT IT READS IS OF BULK AT MOST 1048576: true; the input reads as it did. -/
def wholeChargeUptoRow : OpenClaim := { program := "ytglgidjhoncphaagreatdoor", sum := "42f4bc0f29eab1d208c0029c3d50b38304458bf4645524f5ec774663dcec653b", func := "quartermaster/quartermastertop.WholeCharge", spec := "wholeCharge", inPlace := ["slices.overlaps[quartermaster/slab.page]"], unfollowed := true, recurses := true, named := ["quartermaster/pool.costs", "math/bits.deBruijn32tab", "math/bits.deBruijn64tab", "quartermaster/calls.table"], plainKeys := false, apart := false, laid := [("math/bits.deBruijn32tab", laid_math_bits_deBruijn32tab), ("math/bits.deBruijn64tab", laid_math_bits_deBruijn64tab), ("quartermaster/pool.costs", laid_quartermaster_pool_costs), ("quartermaster/calls.table", laid_quartermaster_calls_table)], narrowed := true }
def WholeChargeUptoSaid : Prop := wholeChargeUptoRow.holds Tryz.pinned (OpenSpec.upto wholeChargeSpec)

end Rows
end Go.Proofs.YtglgidjhoncphaaGreatDoor
