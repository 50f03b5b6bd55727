/-
  DERIVED. GIVEN WITH THE SEED: THE CARDS: each row of YtpjekjnehiinnaaGreatDoorRows.lean that lists a variable, with what it lists TIED to the program's text (the seventh form; the later family's looks); each row that meets fmt, with fmt's text TOLD by the authors' own Lean function (tested against real Go, not proved from fmt's source: count such statements apart). THE CARD IS WHAT COUNTS. Prove the row's statement (the work); the ties are given (YtpjekjnehiinnaaGreatDoorTie.lean); close each card by the builder's one call (the guide's Derived/Test/ToyasCard.lean, 'card_holds'). Laid BY PROGRAM, IN A SANDBOX (cutbox-door.mjs). By AI agents, Wed Nov 11 2026. No macro, syntax, notation, axiom, sorry.
-/
import Derived.Test.YtpjekjnehiinnaaGreatDoorRows
import GoSem.ClaimSeven
namespace Go.Proofs.YtpjekjnehiinnaaGreatDoor
namespace Rows

/-- THE TIED CARD OF 'bellwrightlaw.GenMakes'. -/
def genMakesCard : Claim7 := { stood := { row := genMakesRow, standIns := [], harness := (true, "c92852869748b453f0da202b33e1c6bfe9fc001f2a6fca7fd70412524ac7da50"), looks := true }, kinds := [], alts := [], laidByText := true, laidKinds := [.data, .data, .data, .sentinel, .sentinel], laidTests := true, laidLooks := .later }
def GenMakesCardSaid : Prop := Claim7.holds Tryz.pinned (.plain (OpenSpec.ofChange genMakesSpec)) genMakesCard

/-- THE TIED CARD OF 'bellwrightlaw.SemChecks'. -/
def semChecksCard : Claim7 := { stood := { row := semChecksRow, standIns := [], harness := (true, "c92852869748b453f0da202b33e1c6bfe9fc001f2a6fca7fd70412524ac7da50"), looks := true }, kinds := [], alts := [], laidByText := true, laidKinds := [.data, .data, .data, .sentinel, .sentinel], laidTests := true, laidLooks := .later }
def SemChecksCardSaid : Prop := Claim7.holds Tryz.pinned (.plain (OpenSpec.ofChange semChecksSpec)) semChecksCard

/-- THE TIED CARD OF 'bellwrightlaw.SemRuns'. -/
def semRunsCard : Claim7 := { stood := { row := semRunsRow, standIns := [], harness := (true, "c92852869748b453f0da202b33e1c6bfe9fc001f2a6fca7fd70412524ac7da50"), looks := true }, kinds := [], alts := [], laidByText := true, laidKinds := [.data, .data, .data, .sentinel, .sentinel], laidTests := true, laidLooks := .later }
def SemRunsCardSaid : Prop := Claim7.holds Tryz.pinned (.plain (OpenSpec.ofChange semRunsSpec)) semRunsCard

/-- THE TIED CARD OF 'bellwrightlaw.SemMore'. -/
def semMoreCard : Claim7 := { stood := { row := semMoreRow, standIns := [], harness := (true, "c92852869748b453f0da202b33e1c6bfe9fc001f2a6fca7fd70412524ac7da50"), looks := true }, kinds := [], alts := [], laidByText := true, laidKinds := [.data, .data, .data, .sentinel, .sentinel], laidTests := true, laidLooks := .later }
def SemMoreCardSaid : Prop := Claim7.holds Tryz.pinned (.plain (OpenSpec.ofChange semMoreSpec)) semMoreCard

/-- THE TIED CARD OF 'bellwrightlaw.SemLeft'. -/
def semLeftCard : Claim7 := { stood := { row := semLeftRow, standIns := [], harness := (true, "c92852869748b453f0da202b33e1c6bfe9fc001f2a6fca7fd70412524ac7da50"), looks := true }, kinds := [], alts := [], laidByText := true, laidKinds := [.data, .data, .data, .sentinel, .sentinel], laidTests := true, laidLooks := .later }
def SemLeftCardSaid : Prop := Claim7.holds Tryz.pinned (.plain (OpenSpec.ofChange semLeftSpec)) semLeftCard

/-- THE TIED CARD OF 'bellwrightlaw.GenRight'. -/
def genRightCard : Claim7 := { stood := { row := genRightRow, standIns := [], harness := (true, "c92852869748b453f0da202b33e1c6bfe9fc001f2a6fca7fd70412524ac7da50"), looks := true }, kinds := [], alts := [], laidByText := true, laidKinds := [.data, .data, .data, .sentinel, .sentinel], laidTests := true, laidLooks := .later }
def GenRightCardSaid : Prop := Claim7.holds Tryz.pinned (.plain (OpenSpec.ofChange genRightSpec)) genRightCard

/-- THE SECOND FORM's CARD OF 'bellwrightlaw.GenMakes'. -/
def genMakesUptoCard : Claim7 := { stood := { row := genMakesUptoRow, standIns := [], harness := (true, "c92852869748b453f0da202b33e1c6bfe9fc001f2a6fca7fd70412524ac7da50"), looks := true }, kinds := [], alts := [], laidByText := true, laidKinds := [.data, .data, .data, .sentinel, .sentinel], laidTests := true, laidLooks := .later }
def GenMakesUptoCardSaid : Prop := Claim7.holds Tryz.pinned (.plain (OpenSpec.upto genMakesSpec)) genMakesUptoCard

/-- THE SECOND FORM's CARD OF 'bellwrightlaw.SemChecks'. -/
def semChecksUptoCard : Claim7 := { stood := { row := semChecksUptoRow, standIns := [], harness := (true, "c92852869748b453f0da202b33e1c6bfe9fc001f2a6fca7fd70412524ac7da50"), looks := true }, kinds := [], alts := [], laidByText := true, laidKinds := [.data, .data, .data, .sentinel, .sentinel], laidTests := true, laidLooks := .later }
def SemChecksUptoCardSaid : Prop := Claim7.holds Tryz.pinned (.plain (OpenSpec.upto semChecksSpec)) semChecksUptoCard

/-- THE SECOND FORM's CARD OF 'bellwrightlaw.SemRuns'. -/
def semRunsUptoCard : Claim7 := { stood := { row := semRunsUptoRow, standIns := [], harness := (true, "c92852869748b453f0da202b33e1c6bfe9fc001f2a6fca7fd70412524ac7da50"), looks := true }, kinds := [], alts := [], laidByText := true, laidKinds := [.data, .data, .data, .sentinel, .sentinel], laidTests := true, laidLooks := .later }
def SemRunsUptoCardSaid : Prop := Claim7.holds Tryz.pinned (.plain (OpenSpec.upto semRunsSpec)) semRunsUptoCard

/-- THE SECOND FORM's CARD OF 'bellwrightlaw.SemMore'. -/
def semMoreUptoCard : Claim7 := { stood := { row := semMoreUptoRow, standIns := [], harness := (true, "c92852869748b453f0da202b33e1c6bfe9fc001f2a6fca7fd70412524ac7da50"), looks := true }, kinds := [], alts := [], laidByText := true, laidKinds := [.data, .data, .data, .sentinel, .sentinel], laidTests := true, laidLooks := .later }
def SemMoreUptoCardSaid : Prop := Claim7.holds Tryz.pinned (.plain (OpenSpec.upto semMoreSpec)) semMoreUptoCard

/-- THE SECOND FORM's CARD OF 'bellwrightlaw.SemLeft'. -/
def semLeftUptoCard : Claim7 := { stood := { row := semLeftUptoRow, standIns := [], harness := (true, "c92852869748b453f0da202b33e1c6bfe9fc001f2a6fca7fd70412524ac7da50"), looks := true }, kinds := [], alts := [], laidByText := true, laidKinds := [.data, .data, .data, .sentinel, .sentinel], laidTests := true, laidLooks := .later }
def SemLeftUptoCardSaid : Prop := Claim7.holds Tryz.pinned (.plain (OpenSpec.upto semLeftSpec)) semLeftUptoCard

/-- THE SECOND FORM's CARD OF 'bellwrightlaw.GenRight'. -/
def genRightUptoCard : Claim7 := { stood := { row := genRightUptoRow, standIns := [], harness := (true, "c92852869748b453f0da202b33e1c6bfe9fc001f2a6fca7fd70412524ac7da50"), looks := true }, kinds := [], alts := [], laidByText := true, laidKinds := [.data, .data, .data, .sentinel, .sentinel], laidTests := true, laidLooks := .later }
def GenRightUptoCardSaid : Prop := Claim7.holds Tryz.pinned (.plain (OpenSpec.upto genRightSpec)) genRightUptoCard
end Rows
end Go.Proofs.YtpjekjnehiinnaaGreatDoor
