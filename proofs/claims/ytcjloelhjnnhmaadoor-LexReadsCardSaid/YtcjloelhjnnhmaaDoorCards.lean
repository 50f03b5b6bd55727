/-
  DERIVED. GIVEN WITH THE SEED: THE CARDS: each row of YtcjloelhjnnhmaaDoorRows.lean that lists a variable, with what it lists TIED to the program's text (the seventh form; the later family's looks); each row that meets fmt, with fmt's text TOLD by the authors' own Lean function (tested against real Go, not proved from fmt's source: count such statements apart). THE CARD IS WHAT COUNTS. Prove the row's statement (the work); the ties are given (YtcjloelhjnnhmaaDoorTie.lean); close each card by the builder's one call (the guide's Derived/Test/ToyasCard.lean, 'card_holds'). Laid BY PROGRAM, IN A SANDBOX (cutbox-door.mjs). By AI agents, Wed Nov 11 2026. No macro, syntax, notation, axiom, sorry.
-/
import Derived.Test.YtcjloelhjnnhmaaDoorRows
import GoSem.ClaimSeven
namespace Go.Proofs.YtcjloelhjnnhmaaDoor
namespace Rows

/-- THE TIED CARD OF 'bellwrightlaw.LexChecks'. -/
def lexChecksCard : Claim7 := { stood := { row := lexChecksRow, standIns := [], harness := (true, "6e130618d55181f4cc0212f3498ef3fdf133cc2742c0a51dbbe419a08736c632"), looks := true }, kinds := [], alts := [], laidByText := true, laidKinds := [.data, .data, .data, .sentinel, .sentinel], laidTests := true, laidLooks := .later }
def LexChecksCardSaid : Prop := Claim7.holds Tryd.pinned (.plain (OpenSpec.ofChange lexChecksSpec)) lexChecksCard

/-- THE TIED CARD OF 'bellwrightlaw.LexReads'. -/
def lexReadsCard : Claim7 := { stood := { row := lexReadsRow, standIns := [], harness := (true, "6e130618d55181f4cc0212f3498ef3fdf133cc2742c0a51dbbe419a08736c632"), looks := true }, kinds := [], alts := [], laidByText := true, laidKinds := [.data, .data, .data, .sentinel, .sentinel], laidTests := true, laidLooks := .later }
def LexReadsCardSaid : Prop := Claim7.holds Tryd.pinned (.plain (OpenSpec.ofChange lexReadsSpec)) lexReadsCard

/-- THE TIED CARD OF 'bellwrightlaw.LexBack'. -/
def lexBackCard : Claim7 := { stood := { row := lexBackRow, standIns := [], harness := (true, "6e130618d55181f4cc0212f3498ef3fdf133cc2742c0a51dbbe419a08736c632"), looks := true }, kinds := [], alts := [], laidByText := true, laidKinds := [.data, .data, .data, .sentinel, .sentinel], laidTests := true, laidLooks := .later }
def LexBackCardSaid : Prop := Claim7.holds Tryd.pinned (.plain (OpenSpec.ofChange lexBackSpec)) lexBackCard

/-- THE TIED CARD OF 'bellwrightlaw.LexJoin'. -/
def lexJoinCard : Claim7 := { stood := { row := lexJoinRow, standIns := [], harness := (true, "6e130618d55181f4cc0212f3498ef3fdf133cc2742c0a51dbbe419a08736c632"), looks := true }, kinds := [], alts := [], laidByText := true, laidKinds := [.data, .data, .data, .sentinel, .sentinel], laidTests := true, laidLooks := .later }
def LexJoinCardSaid : Prop := Claim7.holds Tryd.pinned (.plain (OpenSpec.ofChange lexJoinSpec)) lexJoinCard

/-- THE SECOND FORM's CARD OF 'bellwrightlaw.LexChecks'. -/
def lexChecksUptoCard : Claim7 := { stood := { row := lexChecksUptoRow, standIns := [], harness := (true, "6e130618d55181f4cc0212f3498ef3fdf133cc2742c0a51dbbe419a08736c632"), looks := true }, kinds := [], alts := [], laidByText := true, laidKinds := [.data, .data, .data, .sentinel, .sentinel], laidTests := true, laidLooks := .later }
def LexChecksUptoCardSaid : Prop := Claim7.holds Tryd.pinned (.plain (OpenSpec.upto lexChecksSpec)) lexChecksUptoCard

/-- THE SECOND FORM's CARD OF 'bellwrightlaw.LexReads'. -/
def lexReadsUptoCard : Claim7 := { stood := { row := lexReadsUptoRow, standIns := [], harness := (true, "6e130618d55181f4cc0212f3498ef3fdf133cc2742c0a51dbbe419a08736c632"), looks := true }, kinds := [], alts := [], laidByText := true, laidKinds := [.data, .data, .data, .sentinel, .sentinel], laidTests := true, laidLooks := .later }
def LexReadsUptoCardSaid : Prop := Claim7.holds Tryd.pinned (.plain (OpenSpec.upto lexReadsSpec)) lexReadsUptoCard

/-- THE SECOND FORM's CARD OF 'bellwrightlaw.LexBack'. -/
def lexBackUptoCard : Claim7 := { stood := { row := lexBackUptoRow, standIns := [], harness := (true, "6e130618d55181f4cc0212f3498ef3fdf133cc2742c0a51dbbe419a08736c632"), looks := true }, kinds := [], alts := [], laidByText := true, laidKinds := [.data, .data, .data, .sentinel, .sentinel], laidTests := true, laidLooks := .later }
def LexBackUptoCardSaid : Prop := Claim7.holds Tryd.pinned (.plain (OpenSpec.upto lexBackSpec)) lexBackUptoCard

/-- THE SECOND FORM's CARD OF 'bellwrightlaw.LexJoin'. -/
def lexJoinUptoCard : Claim7 := { stood := { row := lexJoinUptoRow, standIns := [], harness := (true, "6e130618d55181f4cc0212f3498ef3fdf133cc2742c0a51dbbe419a08736c632"), looks := true }, kinds := [], alts := [], laidByText := true, laidKinds := [.data, .data, .data, .sentinel, .sentinel], laidTests := true, laidLooks := .later }
def LexJoinUptoCardSaid : Prop := Claim7.holds Tryd.pinned (.plain (OpenSpec.upto lexJoinSpec)) lexJoinUptoCard
end Rows
end Go.Proofs.YtcjloelhjnnhmaaDoor
