/-
  DERIVED. GIVEN WITH THE SEED: THE CARDS: each row of YtinnlppbkhhoiaaGreatDoorRows.lean that lists a variable, with what it lists TIED to the program's text (the seventh form; the later family's looks); each row that meets fmt, with fmt's text TOLD by the authors' own Lean function (tested against real Go, not proved from fmt's source: count such statements apart). THE CARD IS WHAT COUNTS. Prove the row's statement (the work); the ties are given (YtinnlppbkhhoiaaGreatDoorTie.lean); close each card by the builder's one call (the guide's Derived/Test/ToyasCard.lean, 'card_holds'). Laid BY PROGRAM, IN A SANDBOX (cutbox-door.mjs). By AI agents, Wed Nov 11 2026. No macro, syntax, notation, axiom, sorry.
-/
import Derived.Test.YtinnlppbkhhoiaaGreatDoorRows
import GoSem.ClaimSeven
namespace Go.Proofs.YtinnlppbkhhoiaaGreatDoor
namespace Rows

/-- THE TIED CARD OF 'bellwrightlaw.ScopeFaces'. -/
def scopeFacesCard : Claim7 := { stood := { row := scopeFacesRow, standIns := [], harness := (true, "b6efaf4b4062113e974d76e62cf7d032bb21625950e7da41805ea8fd8a795d53"), looks := true }, kinds := [], alts := [], laidByText := true, laidKinds := [.data, .data, .data, .sentinel, .sentinel], laidTests := true, laidLooks := .later }
def ScopeFacesCardSaid : Prop := Claim7.holds Tryz.pinned (.plain (OpenSpec.ofChange scopeFacesSpec)) scopeFacesCard

/-- THE TIED CARD OF 'bellwrightlaw.ScopeResolves'. -/
def scopeResolvesCard : Claim7 := { stood := { row := scopeResolvesRow, standIns := [], harness := (true, "b6efaf4b4062113e974d76e62cf7d032bb21625950e7da41805ea8fd8a795d53"), looks := true }, kinds := [], alts := [], laidByText := true, laidKinds := [.data, .data, .data, .sentinel, .sentinel], laidTests := true, laidLooks := .later }
def ScopeResolvesCardSaid : Prop := Claim7.holds Tryz.pinned (.plain (OpenSpec.ofChange scopeResolvesSpec)) scopeResolvesCard

/-- THE TIED CARD OF 'bellwrightlaw.ScopeRight'. -/
def scopeRightCard : Claim7 := { stood := { row := scopeRightRow, standIns := [], harness := (true, "b6efaf4b4062113e974d76e62cf7d032bb21625950e7da41805ea8fd8a795d53"), looks := true }, kinds := [], alts := [], laidByText := true, laidKinds := [.data, .data, .data, .sentinel, .sentinel], laidTests := true, laidLooks := .later }
def ScopeRightCardSaid : Prop := Claim7.holds Tryz.pinned (.plain (OpenSpec.ofChange scopeRightSpec)) scopeRightCard

/-- THE SECOND FORM's CARD OF 'bellwrightlaw.ScopeFaces'. -/
def scopeFacesUptoCard : Claim7 := { stood := { row := scopeFacesUptoRow, standIns := [], harness := (true, "b6efaf4b4062113e974d76e62cf7d032bb21625950e7da41805ea8fd8a795d53"), looks := true }, kinds := [], alts := [], laidByText := true, laidKinds := [.data, .data, .data, .sentinel, .sentinel], laidTests := true, laidLooks := .later }
def ScopeFacesUptoCardSaid : Prop := Claim7.holds Tryz.pinned (.plain (OpenSpec.upto scopeFacesSpec)) scopeFacesUptoCard

/-- THE SECOND FORM's CARD OF 'bellwrightlaw.ScopeResolves'. -/
def scopeResolvesUptoCard : Claim7 := { stood := { row := scopeResolvesUptoRow, standIns := [], harness := (true, "b6efaf4b4062113e974d76e62cf7d032bb21625950e7da41805ea8fd8a795d53"), looks := true }, kinds := [], alts := [], laidByText := true, laidKinds := [.data, .data, .data, .sentinel, .sentinel], laidTests := true, laidLooks := .later }
def ScopeResolvesUptoCardSaid : Prop := Claim7.holds Tryz.pinned (.plain (OpenSpec.upto scopeResolvesSpec)) scopeResolvesUptoCard

/-- THE SECOND FORM's CARD OF 'bellwrightlaw.ScopeRight'. -/
def scopeRightUptoCard : Claim7 := { stood := { row := scopeRightUptoRow, standIns := [], harness := (true, "b6efaf4b4062113e974d76e62cf7d032bb21625950e7da41805ea8fd8a795d53"), looks := true }, kinds := [], alts := [], laidByText := true, laidKinds := [.data, .data, .data, .sentinel, .sentinel], laidTests := true, laidLooks := .later }
def ScopeRightUptoCardSaid : Prop := Claim7.holds Tryz.pinned (.plain (OpenSpec.upto scopeRightSpec)) scopeRightUptoCard
end Rows
end Go.Proofs.YtinnlppbkhhoiaaGreatDoor
