/-
  DERIVED. GIVEN WITH THE SEED: THE CARDS: each row of YtnlgmaibhlicjaaGreatDoorRows.lean that lists a variable, with what it lists TIED to the program's text (the seventh form; the later family's looks); each row that meets fmt, with fmt's text TOLD by the authors' own Lean function (tested against real Go, not proved from fmt's source: count such statements apart). THE CARD IS WHAT COUNTS. Prove the row's statement (the work); the ties are given (YtnlgmaibhlicjaaGreatDoorTie.lean); close each card by the builder's one call (the guide's Derived/Test/ToyasCard.lean, 'card_holds'). Laid BY PROGRAM, IN A SANDBOX (cutbox-door.mjs). By AI agents, Wed Nov 11 2026. No macro, syntax, notation, axiom, sorry.
-/
import Derived.Test.YtnlgmaibhlicjaaGreatDoorRows
import GoSem.ClaimSeven
namespace Go.Proofs.YtnlgmaibhlicjaaGreatDoor
namespace Rows

/-- THE TIED CARD OF 'quartermastertop.WholeIsolated'. -/
def wholeIsolatedCard : Claim7 := { stood := { row := wholeIsolatedRow, standIns := [], harness := (true, "815e0ae76c554bd145ef1eb116d61d6350a5fec3011c9f860df9c1d7aa61af73"), looks := false }, kinds := [], alts := [], laidByText := true, laidKinds := [.data, .data, .data, .data], laidTests := true, laidLooks := .later }
def WholeIsolatedCardSaid : Prop := Claim7.holds Tryz.pinned (.plain (OpenSpec.ofChange wholeIsolatedSpec)) wholeIsolatedCard

/-- THE SECOND FORM's CARD OF 'quartermastertop.WholeIsolated'. -/
def wholeIsolatedUptoCard : Claim7 := { stood := { row := wholeIsolatedUptoRow, standIns := [], harness := (true, "815e0ae76c554bd145ef1eb116d61d6350a5fec3011c9f860df9c1d7aa61af73"), looks := false }, kinds := [], alts := [], laidByText := true, laidKinds := [.data, .data, .data, .data], laidTests := true, laidLooks := .later }
def WholeIsolatedUptoCardSaid : Prop := Claim7.holds Tryz.pinned (.plain (OpenSpec.upto wholeIsolatedSpec)) wholeIsolatedUptoCard
end Rows
end Go.Proofs.YtnlgmaibhlicjaaGreatDoor
