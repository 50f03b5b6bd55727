/-
  DERIVED. GIVEN WITH THE SEED: THE CARDS: each row of YtccenighnmfhgaaGreatDoorRows.lean that lists a variable, with what it lists TIED to the program's text (the seventh form; the later family's looks); each row that meets fmt, with fmt's text TOLD by the authors' own Lean function (tested against real Go, not proved from fmt's source: count such statements apart). THE CARD IS WHAT COUNTS. Prove the row's statement (the work); the ties are given (YtccenighnmfhgaaGreatDoorTie.lean); close each card by the builder's one call (the guide's Derived/Test/ToyasCard.lean, 'card_holds'). Laid BY PROGRAM, IN A SANDBOX (cutbox-door.mjs). By AI agents, Wed Nov 11 2026. No macro, syntax, notation, axiom, sorry.
-/
import Derived.Test.YtccenighnmfhgaaGreatDoorRows
import GoSem.ClaimSeven
namespace Go.Proofs.YtccenighnmfhgaaGreatDoor
namespace Rows

/-- THE TIED CARD OF 'bellwrightlaw.BuildCompiles'. -/
def buildCompilesCard : Claim7 := { stood := { row := buildCompilesRow, standIns := [], harness := (true, "72b3bedeffa63b34864763b03ab059bd45ac46f475728df861a0b431dd9214dc"), looks := true }, kinds := [], alts := [], laidByText := true, laidKinds := [.data, .data, .data, .sentinel, .sentinel], laidTests := true, laidLooks := .later }
def BuildCompilesCardSaid : Prop := Claim7.holds Tryz.pinned (.plain (OpenSpec.ofChange buildCompilesSpec)) buildCompilesCard

/-- THE TIED CARD OF 'bellwrightlaw.BuildBuilds'. -/
def buildBuildsCard : Claim7 := { stood := { row := buildBuildsRow, standIns := [], harness := (true, "72b3bedeffa63b34864763b03ab059bd45ac46f475728df861a0b431dd9214dc"), looks := true }, kinds := [], alts := [], laidByText := true, laidKinds := [.data, .data, .data, .sentinel, .sentinel], laidTests := true, laidLooks := .later }
def BuildBuildsCardSaid : Prop := Claim7.holds Tryz.pinned (.plain (OpenSpec.ofChange buildBuildsSpec)) buildBuildsCard

/-- THE TIED CARD OF 'bellwrightlaw.BuildAlike'. -/
def buildAlikeCard : Claim7 := { stood := { row := buildAlikeRow, standIns := [], harness := (true, "72b3bedeffa63b34864763b03ab059bd45ac46f475728df861a0b431dd9214dc"), looks := true }, kinds := [], alts := [], laidByText := true, laidKinds := [.data, .data, .data, .sentinel, .sentinel], laidTests := true, laidLooks := .later }
def BuildAlikeCardSaid : Prop := Claim7.holds Tryz.pinned (.plain (OpenSpec.ofChange buildAlikeSpec)) buildAlikeCard

/-- THE TIED CARD OF 'bellwrightlaw.BuildApart'. -/
def buildApartCard : Claim7 := { stood := { row := buildApartRow, standIns := [], harness := (true, "72b3bedeffa63b34864763b03ab059bd45ac46f475728df861a0b431dd9214dc"), looks := true }, kinds := [], alts := [], laidByText := true, laidKinds := [.data, .data, .data, .sentinel, .sentinel], laidTests := true, laidLooks := .later }
def BuildApartCardSaid : Prop := Claim7.holds Tryz.pinned (.plain (OpenSpec.ofChange buildApartSpec)) buildApartCard

/-- THE TIED CARD OF 'bellwrightlaw.BuildRight'. -/
def buildRightCard : Claim7 := { stood := { row := buildRightRow, standIns := [], harness := (true, "72b3bedeffa63b34864763b03ab059bd45ac46f475728df861a0b431dd9214dc"), looks := true }, kinds := [], alts := [], laidByText := true, laidKinds := [.data, .data, .data, .sentinel, .sentinel], laidTests := true, laidLooks := .later }
def BuildRightCardSaid : Prop := Claim7.holds Tryz.pinned (.plain (OpenSpec.ofChange buildRightSpec)) buildRightCard

/-- THE SECOND FORM's CARD OF 'bellwrightlaw.BuildCompiles'. -/
def buildCompilesUptoCard : Claim7 := { stood := { row := buildCompilesUptoRow, standIns := [], harness := (true, "72b3bedeffa63b34864763b03ab059bd45ac46f475728df861a0b431dd9214dc"), looks := true }, kinds := [], alts := [], laidByText := true, laidKinds := [.data, .data, .data, .sentinel, .sentinel], laidTests := true, laidLooks := .later }
def BuildCompilesUptoCardSaid : Prop := Claim7.holds Tryz.pinned (.plain (OpenSpec.upto buildCompilesSpec)) buildCompilesUptoCard

/-- THE SECOND FORM's CARD OF 'bellwrightlaw.BuildBuilds'. -/
def buildBuildsUptoCard : Claim7 := { stood := { row := buildBuildsUptoRow, standIns := [], harness := (true, "72b3bedeffa63b34864763b03ab059bd45ac46f475728df861a0b431dd9214dc"), looks := true }, kinds := [], alts := [], laidByText := true, laidKinds := [.data, .data, .data, .sentinel, .sentinel], laidTests := true, laidLooks := .later }
def BuildBuildsUptoCardSaid : Prop := Claim7.holds Tryz.pinned (.plain (OpenSpec.upto buildBuildsSpec)) buildBuildsUptoCard

/-- THE SECOND FORM's CARD OF 'bellwrightlaw.BuildAlike'. -/
def buildAlikeUptoCard : Claim7 := { stood := { row := buildAlikeUptoRow, standIns := [], harness := (true, "72b3bedeffa63b34864763b03ab059bd45ac46f475728df861a0b431dd9214dc"), looks := true }, kinds := [], alts := [], laidByText := true, laidKinds := [.data, .data, .data, .sentinel, .sentinel], laidTests := true, laidLooks := .later }
def BuildAlikeUptoCardSaid : Prop := Claim7.holds Tryz.pinned (.plain (OpenSpec.upto buildAlikeSpec)) buildAlikeUptoCard

/-- THE SECOND FORM's CARD OF 'bellwrightlaw.BuildApart'. -/
def buildApartUptoCard : Claim7 := { stood := { row := buildApartUptoRow, standIns := [], harness := (true, "72b3bedeffa63b34864763b03ab059bd45ac46f475728df861a0b431dd9214dc"), looks := true }, kinds := [], alts := [], laidByText := true, laidKinds := [.data, .data, .data, .sentinel, .sentinel], laidTests := true, laidLooks := .later }
def BuildApartUptoCardSaid : Prop := Claim7.holds Tryz.pinned (.plain (OpenSpec.upto buildApartSpec)) buildApartUptoCard

/-- THE SECOND FORM's CARD OF 'bellwrightlaw.BuildRight'. -/
def buildRightUptoCard : Claim7 := { stood := { row := buildRightUptoRow, standIns := [], harness := (true, "72b3bedeffa63b34864763b03ab059bd45ac46f475728df861a0b431dd9214dc"), looks := true }, kinds := [], alts := [], laidByText := true, laidKinds := [.data, .data, .data, .sentinel, .sentinel], laidTests := true, laidLooks := .later }
def BuildRightUptoCardSaid : Prop := Claim7.holds Tryz.pinned (.plain (OpenSpec.upto buildRightSpec)) buildRightUptoCard
end Rows
end Go.Proofs.YtccenighnmfhgaaGreatDoor
