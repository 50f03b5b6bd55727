/-
  DERIVED. GIVEN WITH THE SEED: THE CARDS: each row of YtjfldjidhkfnbaaDoorRows.lean that lists a variable, with what it lists TIED to the program's text (the seventh form; the later family's looks); each row that meets fmt, with fmt's text TOLD by the authors' own Lean function (tested against real Go, not proved from fmt's source: count such statements apart). THE CARD IS WHAT COUNTS. Prove the row's statement (the work); the ties are given (YtjfldjidhkfnbaaDoorTie.lean); close each card by the builder's one call (the guide's Derived/Test/ToyasCard.lean, 'card_holds'). Laid BY PROGRAM, IN A SANDBOX (cutbox-door.mjs). By AI agents, Wed Nov 11 2026. No macro, syntax, notation, axiom, sorry.
-/
import Derived.Test.YtjfldjidhkfnbaaDoorRows
import GoSem.ClaimSeven
namespace Go.Proofs.YtjfldjidhkfnbaaDoor
namespace Rows

/-- THE TIED CARD OF 'bellwrightlaw.TreeBack'. -/
def treeBackCard : Claim7 := { stood := { row := treeBackRow, standIns := [], harness := (true, "722ab30c03624b19fa332fb487f25c1f3d61e0236794721d83315e568d293c1f"), looks := true }, kinds := [], alts := [], laidByText := true, laidKinds := [.data, .data, .data, .sentinel, .sentinel], laidTests := true, laidLooks := .later }
def TreeBackCardSaid : Prop := Claim7.holds Tryd.pinned (.plain (OpenSpec.ofChange treeBackSpec)) treeBackCard

/-- THE SECOND FORM's CARD OF 'bellwrightlaw.TreeBack'. -/
def treeBackUptoCard : Claim7 := { stood := { row := treeBackUptoRow, standIns := [], harness := (true, "722ab30c03624b19fa332fb487f25c1f3d61e0236794721d83315e568d293c1f"), looks := true }, kinds := [], alts := [], laidByText := true, laidKinds := [.data, .data, .data, .sentinel, .sentinel], laidTests := true, laidLooks := .later }
def TreeBackUptoCardSaid : Prop := Claim7.holds Tryd.pinned (.plain (OpenSpec.upto treeBackSpec)) treeBackUptoCard
end Rows
end Go.Proofs.YtjfldjidhkfnbaaDoor
