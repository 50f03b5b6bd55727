/-
  DERIVED. GIVEN WITH THE SEED: THE CARDS: each row of YtgeahfjicmlocaaGreatDoorRows.lean that lists a variable, with what it lists TIED to the program's text (the seventh form; the later family's looks); each row that meets fmt, with fmt's text TOLD by the authors' own Lean function (tested against real Go, not proved from fmt's source: count such statements apart). THE CARD IS WHAT COUNTS. Prove the row's statement (the work); the ties are given (YtgeahfjicmlocaaGreatDoorTie.lean); close each card by the builder's one call (the guide's Derived/Test/ToyasCard.lean, 'card_holds'). Laid BY PROGRAM, IN A SANDBOX (cutbox-door.mjs). By AI agents, Wed Nov 11 2026. No macro, syntax, notation, axiom, sorry.
-/
import Derived.Test.YtgeahfjicmlocaaGreatDoorRows
import GoSem.ClaimSeven
namespace Go.Proofs.YtgeahfjicmlocaaGreatDoor
namespace Rows

/-- THE TIED CARD OF 'bellwrightlaw.RestModules'. -/
def restModulesCard : Claim7 := { stood := { row := restModulesRow, standIns := [], harness := (true, "bf9c5f6e23a7193a812747a126be091e1a344b84699aa7e1f7d344b12ad2d704"), looks := true }, kinds := [], alts := [], laidByText := true, laidKinds := [.data, .data, .data, .sentinel, .sentinel], laidTests := true, laidLooks := .later }
def RestModulesCardSaid : Prop := Claim7.holds Tryz.pinned (.plain (OpenSpec.ofChange restModulesSpec)) restModulesCard

/-- THE TIED CARD OF 'bellwrightlaw.LinkSame'. -/
def linkSameCard : Claim7 := { stood := { row := linkSameRow, standIns := [], harness := (true, "bf9c5f6e23a7193a812747a126be091e1a344b84699aa7e1f7d344b12ad2d704"), looks := true }, kinds := [], alts := [], laidByText := true, laidKinds := [.data, .data, .data, .sentinel, .sentinel], laidTests := true, laidLooks := .later }
def LinkSameCardSaid : Prop := Claim7.holds Tryz.pinned (.plain (OpenSpec.ofChange linkSameSpec)) linkSameCard

/-- THE TIED CARD OF 'bellwrightlaw.BuildCompiles'. -/
def buildCompilesCard : Claim7 := { stood := { row := buildCompilesRow, standIns := [], harness := (true, "bf9c5f6e23a7193a812747a126be091e1a344b84699aa7e1f7d344b12ad2d704"), looks := true }, kinds := [], alts := [], laidByText := true, laidKinds := [.data, .data, .data, .sentinel, .sentinel], laidTests := true, laidLooks := .later }
def BuildCompilesCardSaid : Prop := Claim7.holds Tryz.pinned (.plain (OpenSpec.ofChange buildCompilesSpec)) buildCompilesCard

/-- THE TIED CARD OF 'bellwrightlaw.BuildBuilds'. -/
def buildBuildsCard : Claim7 := { stood := { row := buildBuildsRow, standIns := [], harness := (true, "bf9c5f6e23a7193a812747a126be091e1a344b84699aa7e1f7d344b12ad2d704"), looks := true }, kinds := [], alts := [], laidByText := true, laidKinds := [.data, .data, .data, .sentinel, .sentinel], laidTests := true, laidLooks := .later }
def BuildBuildsCardSaid : Prop := Claim7.holds Tryz.pinned (.plain (OpenSpec.ofChange buildBuildsSpec)) buildBuildsCard

/-- THE TIED CARD OF 'bellwrightlaw.WholeTells'. -/
def wholeTellsCard : Claim7 := { stood := { row := wholeTellsRow, standIns := [], harness := (true, "bf9c5f6e23a7193a812747a126be091e1a344b84699aa7e1f7d344b12ad2d704"), looks := true }, kinds := [], alts := [], laidByText := true, laidKinds := [.data, .data, .data, .sentinel, .sentinel], laidTests := true, laidLooks := .later }
def WholeTellsCardSaid : Prop := Claim7.holds Tryz.pinned (.plain (OpenSpec.ofChange wholeTellsSpec)) wholeTellsCard

/-- THE TIED CARD OF 'bellwrightlaw.WholeShown'. -/
def wholeShownCard : Claim7 := { stood := { row := wholeShownRow, standIns := [], harness := (true, "bf9c5f6e23a7193a812747a126be091e1a344b84699aa7e1f7d344b12ad2d704"), looks := true }, kinds := [], alts := [], laidByText := true, laidKinds := [.data, .data, .data, .sentinel, .sentinel], laidTests := true, laidLooks := .later }
def WholeShownCardSaid : Prop := Claim7.holds Tryz.pinned (.plain (OpenSpec.ofChange wholeShownSpec)) wholeShownCard

/-- THE TIED CARD OF 'bellwrightlaw.WholeSame'. -/
def wholeSameCard : Claim7 := { stood := { row := wholeSameRow, standIns := [], harness := (true, "bf9c5f6e23a7193a812747a126be091e1a344b84699aa7e1f7d344b12ad2d704"), looks := true }, kinds := [], alts := [], laidByText := true, laidKinds := [.data, .data, .data, .sentinel, .sentinel], laidTests := true, laidLooks := .later }
def WholeSameCardSaid : Prop := Claim7.holds Tryz.pinned (.plain (OpenSpec.ofChange wholeSameSpec)) wholeSameCard

/-- THE SECOND FORM's CARD OF 'bellwrightlaw.RestModules'. -/
def restModulesUptoCard : Claim7 := { stood := { row := restModulesUptoRow, standIns := [], harness := (true, "bf9c5f6e23a7193a812747a126be091e1a344b84699aa7e1f7d344b12ad2d704"), looks := true }, kinds := [], alts := [], laidByText := true, laidKinds := [.data, .data, .data, .sentinel, .sentinel], laidTests := true, laidLooks := .later }
def RestModulesUptoCardSaid : Prop := Claim7.holds Tryz.pinned (.plain (OpenSpec.upto restModulesSpec)) restModulesUptoCard

/-- THE SECOND FORM's CARD OF 'bellwrightlaw.LinkSame'. -/
def linkSameUptoCard : Claim7 := { stood := { row := linkSameUptoRow, standIns := [], harness := (true, "bf9c5f6e23a7193a812747a126be091e1a344b84699aa7e1f7d344b12ad2d704"), looks := true }, kinds := [], alts := [], laidByText := true, laidKinds := [.data, .data, .data, .sentinel, .sentinel], laidTests := true, laidLooks := .later }
def LinkSameUptoCardSaid : Prop := Claim7.holds Tryz.pinned (.plain (OpenSpec.upto linkSameSpec)) linkSameUptoCard

/-- THE SECOND FORM's CARD OF 'bellwrightlaw.BuildCompiles'. -/
def buildCompilesUptoCard : Claim7 := { stood := { row := buildCompilesUptoRow, standIns := [], harness := (true, "bf9c5f6e23a7193a812747a126be091e1a344b84699aa7e1f7d344b12ad2d704"), looks := true }, kinds := [], alts := [], laidByText := true, laidKinds := [.data, .data, .data, .sentinel, .sentinel], laidTests := true, laidLooks := .later }
def BuildCompilesUptoCardSaid : Prop := Claim7.holds Tryz.pinned (.plain (OpenSpec.upto buildCompilesSpec)) buildCompilesUptoCard

/-- THE SECOND FORM's CARD OF 'bellwrightlaw.BuildBuilds'. -/
def buildBuildsUptoCard : Claim7 := { stood := { row := buildBuildsUptoRow, standIns := [], harness := (true, "bf9c5f6e23a7193a812747a126be091e1a344b84699aa7e1f7d344b12ad2d704"), looks := true }, kinds := [], alts := [], laidByText := true, laidKinds := [.data, .data, .data, .sentinel, .sentinel], laidTests := true, laidLooks := .later }
def BuildBuildsUptoCardSaid : Prop := Claim7.holds Tryz.pinned (.plain (OpenSpec.upto buildBuildsSpec)) buildBuildsUptoCard

/-- THE SECOND FORM's CARD OF 'bellwrightlaw.WholeTells'. -/
def wholeTellsUptoCard : Claim7 := { stood := { row := wholeTellsUptoRow, standIns := [], harness := (true, "bf9c5f6e23a7193a812747a126be091e1a344b84699aa7e1f7d344b12ad2d704"), looks := true }, kinds := [], alts := [], laidByText := true, laidKinds := [.data, .data, .data, .sentinel, .sentinel], laidTests := true, laidLooks := .later }
def WholeTellsUptoCardSaid : Prop := Claim7.holds Tryz.pinned (.plain (OpenSpec.upto wholeTellsSpec)) wholeTellsUptoCard

/-- THE SECOND FORM's CARD OF 'bellwrightlaw.WholeShown'. -/
def wholeShownUptoCard : Claim7 := { stood := { row := wholeShownUptoRow, standIns := [], harness := (true, "bf9c5f6e23a7193a812747a126be091e1a344b84699aa7e1f7d344b12ad2d704"), looks := true }, kinds := [], alts := [], laidByText := true, laidKinds := [.data, .data, .data, .sentinel, .sentinel], laidTests := true, laidLooks := .later }
def WholeShownUptoCardSaid : Prop := Claim7.holds Tryz.pinned (.plain (OpenSpec.upto wholeShownSpec)) wholeShownUptoCard

/-- THE SECOND FORM's CARD OF 'bellwrightlaw.WholeSame'. -/
def wholeSameUptoCard : Claim7 := { stood := { row := wholeSameUptoRow, standIns := [], harness := (true, "bf9c5f6e23a7193a812747a126be091e1a344b84699aa7e1f7d344b12ad2d704"), looks := true }, kinds := [], alts := [], laidByText := true, laidKinds := [.data, .data, .data, .sentinel, .sentinel], laidTests := true, laidLooks := .later }
def WholeSameUptoCardSaid : Prop := Claim7.holds Tryz.pinned (.plain (OpenSpec.upto wholeSameSpec)) wholeSameUptoCard
end Rows
end Go.Proofs.YtgeahfjicmlocaaGreatDoor
