/-
  DERIVED. GIVEN WITH THE SEED: THE CARDS: each row of YtglgidjhoncphaaGreatDoorRows.lean that lists a variable, with what it lists TIED to the program's text (the seventh form; the later family's looks); each row that meets fmt, with fmt's text TOLD by the authors' own Lean function (tested against real Go, not proved from fmt's source: count such statements apart). THE CARD IS WHAT COUNTS. Prove the row's statement (the work); the ties are given (YtglgidjhoncphaaGreatDoorTie.lean); close each card by the builder's one call (the guide's Derived/Test/ToyasCard.lean, 'card_holds'). Laid BY PROGRAM, IN A SANDBOX (cutbox-door.mjs). By AI agents, Wed Nov 11 2026. No macro, syntax, notation, axiom, sorry.
-/
import Derived.Test.YtglgidjhoncphaaGreatDoorRows
import GoSem.ClaimSeven
namespace Go.Proofs.YtglgidjhoncphaaGreatDoor
namespace Rows

/-- THE TIED CARD OF 'quartermastertop.WholeKills'. -/
def wholeKillsCard : Claim7 := { stood := { row := wholeKillsRow, standIns := [], harness := (true, "2656b22e84306cca343b9ea50bd573a91fa4c338bee4ae38097b1b2b8f3ddc3f"), looks := false }, kinds := [], alts := [], laidByText := true, laidKinds := [.data, .data, .data, .data], laidTests := true, laidLooks := .later }
def WholeKillsCardSaid : Prop := Claim7.holds Tryz.pinned (.plain (OpenSpec.ofChange wholeKillsSpec)) wholeKillsCard

/-- THE TIED CARD OF 'quartermastertop.WholeUnmap'. -/
def wholeUnmapCard : Claim7 := { stood := { row := wholeUnmapRow, standIns := [], harness := (true, "2656b22e84306cca343b9ea50bd573a91fa4c338bee4ae38097b1b2b8f3ddc3f"), looks := false }, kinds := [], alts := [], laidByText := true, laidKinds := [.data, .data, .data, .data], laidTests := true, laidLooks := .later }
def WholeUnmapCardSaid : Prop := Claim7.holds Tryz.pinned (.plain (OpenSpec.ofChange wholeUnmapSpec)) wholeUnmapCard

/-- THE TIED CARD OF 'quartermastertop.WholeTables'. -/
def wholeTablesCard : Claim7 := { stood := { row := wholeTablesRow, standIns := [], harness := (true, "2656b22e84306cca343b9ea50bd573a91fa4c338bee4ae38097b1b2b8f3ddc3f"), looks := false }, kinds := [], alts := [], laidByText := true, laidKinds := [.data, .data, .data, .data], laidTests := true, laidLooks := .later }
def WholeTablesCardSaid : Prop := Claim7.holds Tryz.pinned (.plain (OpenSpec.ofChange wholeTablesSpec)) wholeTablesCard

/-- THE TIED CARD OF 'quartermastertop.WholeGrace'. -/
def wholeGraceCard : Claim7 := { stood := { row := wholeGraceRow, standIns := [], harness := (true, "2656b22e84306cca343b9ea50bd573a91fa4c338bee4ae38097b1b2b8f3ddc3f"), looks := false }, kinds := [], alts := [], laidByText := true, laidKinds := [.data, .data, .data, .data], laidTests := true, laidLooks := .later }
def WholeGraceCardSaid : Prop := Claim7.holds Tryz.pinned (.plain (OpenSpec.ofChange wholeGraceSpec)) wholeGraceCard

/-- THE TIED CARD OF 'quartermastertop.WholeCharge'. -/
def wholeChargeCard : Claim7 := { stood := { row := wholeChargeRow, standIns := [], harness := (true, "2656b22e84306cca343b9ea50bd573a91fa4c338bee4ae38097b1b2b8f3ddc3f"), looks := false }, kinds := [], alts := [], laidByText := true, laidKinds := [.data, .data, .data, .data], laidTests := true, laidLooks := .later }
def WholeChargeCardSaid : Prop := Claim7.holds Tryz.pinned (.plain (OpenSpec.ofChange wholeChargeSpec)) wholeChargeCard

/-- THE SECOND FORM's CARD OF 'quartermastertop.WholeKills'. -/
def wholeKillsUptoCard : Claim7 := { stood := { row := wholeKillsUptoRow, standIns := [], harness := (true, "2656b22e84306cca343b9ea50bd573a91fa4c338bee4ae38097b1b2b8f3ddc3f"), looks := false }, kinds := [], alts := [], laidByText := true, laidKinds := [.data, .data, .data, .data], laidTests := true, laidLooks := .later }
def WholeKillsUptoCardSaid : Prop := Claim7.holds Tryz.pinned (.plain (OpenSpec.upto wholeKillsSpec)) wholeKillsUptoCard

/-- THE SECOND FORM's CARD OF 'quartermastertop.WholeUnmap'. -/
def wholeUnmapUptoCard : Claim7 := { stood := { row := wholeUnmapUptoRow, standIns := [], harness := (true, "2656b22e84306cca343b9ea50bd573a91fa4c338bee4ae38097b1b2b8f3ddc3f"), looks := false }, kinds := [], alts := [], laidByText := true, laidKinds := [.data, .data, .data, .data], laidTests := true, laidLooks := .later }
def WholeUnmapUptoCardSaid : Prop := Claim7.holds Tryz.pinned (.plain (OpenSpec.upto wholeUnmapSpec)) wholeUnmapUptoCard

/-- THE SECOND FORM's CARD OF 'quartermastertop.WholeTables'. -/
def wholeTablesUptoCard : Claim7 := { stood := { row := wholeTablesUptoRow, standIns := [], harness := (true, "2656b22e84306cca343b9ea50bd573a91fa4c338bee4ae38097b1b2b8f3ddc3f"), looks := false }, kinds := [], alts := [], laidByText := true, laidKinds := [.data, .data, .data, .data], laidTests := true, laidLooks := .later }
def WholeTablesUptoCardSaid : Prop := Claim7.holds Tryz.pinned (.plain (OpenSpec.upto wholeTablesSpec)) wholeTablesUptoCard

/-- THE SECOND FORM's CARD OF 'quartermastertop.WholeGrace'. -/
def wholeGraceUptoCard : Claim7 := { stood := { row := wholeGraceUptoRow, standIns := [], harness := (true, "2656b22e84306cca343b9ea50bd573a91fa4c338bee4ae38097b1b2b8f3ddc3f"), looks := false }, kinds := [], alts := [], laidByText := true, laidKinds := [.data, .data, .data, .data], laidTests := true, laidLooks := .later }
def WholeGraceUptoCardSaid : Prop := Claim7.holds Tryz.pinned (.plain (OpenSpec.upto wholeGraceSpec)) wholeGraceUptoCard

/-- THE SECOND FORM's CARD OF 'quartermastertop.WholeCharge'. -/
def wholeChargeUptoCard : Claim7 := { stood := { row := wholeChargeUptoRow, standIns := [], harness := (true, "2656b22e84306cca343b9ea50bd573a91fa4c338bee4ae38097b1b2b8f3ddc3f"), looks := false }, kinds := [], alts := [], laidByText := true, laidKinds := [.data, .data, .data, .data], laidTests := true, laidLooks := .later }
def WholeChargeUptoCardSaid : Prop := Claim7.holds Tryz.pinned (.plain (OpenSpec.upto wholeChargeSpec)) wholeChargeUptoCard
end Rows
end Go.Proofs.YtglgidjhoncphaaGreatDoor
