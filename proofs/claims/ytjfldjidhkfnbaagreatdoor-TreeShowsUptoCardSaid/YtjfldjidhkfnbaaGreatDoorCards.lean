/-
  DERIVED. GIVEN WITH THE SEED: THE CARDS: each row of YtjfldjidhkfnbaaGreatDoorRows.lean that lists a variable, with what it lists TIED to the program's text (the seventh form; the later family's looks); each row that meets fmt, with fmt's text TOLD by the authors' own Lean function (tested against real Go, not proved from fmt's source: count such statements apart). THE CARD IS WHAT COUNTS. Prove the row's statement (the work); the ties are given (YtjfldjidhkfnbaaGreatDoorTie.lean); close each card by the builder's one call (the guide's Derived/Test/ToyasCard.lean, 'card_holds'). Laid BY PROGRAM, IN A SANDBOX (cutbox-door.mjs). By AI agents, Wed Nov 11 2026. No macro, syntax, notation, axiom, sorry.
-/
import Derived.Test.YtjfldjidhkfnbaaGreatDoorRows
import GoSem.ClaimSeven
namespace Go.Proofs.YtjfldjidhkfnbaaGreatDoor
namespace Rows

/-- THE TIED CARD OF 'bellwrightlaw.TreeChecks'. -/
def treeChecksCard : Claim7 := { stood := { row := treeChecksRow, standIns := [], harness := (true, "6a4bc2ce75d3e05a6b732264b68db538470ca5c29f19aed1d9b456f2243caa28"), looks := true }, kinds := [], alts := [], laidByText := true, laidKinds := [.data, .data, .data, .sentinel, .sentinel], laidTests := true, laidLooks := .later }
def TreeChecksCardSaid : Prop := Claim7.holds Tryz.pinned (.plain (OpenSpec.ofChange treeChecksSpec)) treeChecksCard

/-- THE TIED CARD OF 'bellwrightlaw.TreeShows'. -/
def treeShowsCard : Claim7 := { stood := { row := treeShowsRow, standIns := [], harness := (true, "6a4bc2ce75d3e05a6b732264b68db538470ca5c29f19aed1d9b456f2243caa28"), looks := true }, kinds := [], alts := [], laidByText := true, laidKinds := [.data, .data, .data, .sentinel, .sentinel], laidTests := true, laidLooks := .later }
def TreeShowsCardSaid : Prop := Claim7.holds Tryz.pinned (.plain (OpenSpec.ofChange treeShowsSpec)) treeShowsCard

/-- THE TIED CARD OF 'bellwrightlaw.TreeParses'. -/
def treeParsesCard : Claim7 := { stood := { row := treeParsesRow, standIns := [], harness := (true, "6a4bc2ce75d3e05a6b732264b68db538470ca5c29f19aed1d9b456f2243caa28"), looks := true }, kinds := [], alts := [], laidByText := true, laidKinds := [.data, .data, .data, .sentinel, .sentinel], laidTests := true, laidLooks := .later }
def TreeParsesCardSaid : Prop := Claim7.holds Tryz.pinned (.plain (OpenSpec.ofChange treeParsesSpec)) treeParsesCard

/-- THE SECOND FORM's CARD OF 'bellwrightlaw.TreeChecks'. -/
def treeChecksUptoCard : Claim7 := { stood := { row := treeChecksUptoRow, standIns := [], harness := (true, "6a4bc2ce75d3e05a6b732264b68db538470ca5c29f19aed1d9b456f2243caa28"), looks := true }, kinds := [], alts := [], laidByText := true, laidKinds := [.data, .data, .data, .sentinel, .sentinel], laidTests := true, laidLooks := .later }
def TreeChecksUptoCardSaid : Prop := Claim7.holds Tryz.pinned (.plain (OpenSpec.upto treeChecksSpec)) treeChecksUptoCard

/-- THE SECOND FORM's CARD OF 'bellwrightlaw.TreeShows'. -/
def treeShowsUptoCard : Claim7 := { stood := { row := treeShowsUptoRow, standIns := [], harness := (true, "6a4bc2ce75d3e05a6b732264b68db538470ca5c29f19aed1d9b456f2243caa28"), looks := true }, kinds := [], alts := [], laidByText := true, laidKinds := [.data, .data, .data, .sentinel, .sentinel], laidTests := true, laidLooks := .later }
def TreeShowsUptoCardSaid : Prop := Claim7.holds Tryz.pinned (.plain (OpenSpec.upto treeShowsSpec)) treeShowsUptoCard

/-- THE SECOND FORM's CARD OF 'bellwrightlaw.TreeParses'. -/
def treeParsesUptoCard : Claim7 := { stood := { row := treeParsesUptoRow, standIns := [], harness := (true, "6a4bc2ce75d3e05a6b732264b68db538470ca5c29f19aed1d9b456f2243caa28"), looks := true }, kinds := [], alts := [], laidByText := true, laidKinds := [.data, .data, .data, .sentinel, .sentinel], laidTests := true, laidLooks := .later }
def TreeParsesUptoCardSaid : Prop := Claim7.holds Tryz.pinned (.plain (OpenSpec.upto treeParsesSpec)) treeParsesUptoCard
end Rows
end Go.Proofs.YtjfldjidhkfnbaaGreatDoor
