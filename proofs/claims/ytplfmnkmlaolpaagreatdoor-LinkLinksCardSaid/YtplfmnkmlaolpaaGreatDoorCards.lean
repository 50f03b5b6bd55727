/-
  DERIVED. GIVEN WITH THE SEED: THE CARDS: each row of YtplfmnkmlaolpaaGreatDoorRows.lean that lists a variable, with what it lists TIED to the program's text (the seventh form; the later family's looks); each row that meets fmt, with fmt's text TOLD by the authors' own Lean function (tested against real Go, not proved from fmt's source: count such statements apart). THE CARD IS WHAT COUNTS. Prove the row's statement (the work); the ties are given (YtplfmnkmlaolpaaGreatDoorTie.lean); close each card by the builder's one call (the guide's Derived/Test/ToyasCard.lean, 'card_holds'). Laid BY PROGRAM, IN A SANDBOX (cutbox-door.mjs). By AI agents, Wed Nov 11 2026. No macro, syntax, notation, axiom, sorry.
-/
import Derived.Test.YtplfmnkmlaolpaaGreatDoorRows
import GoSem.ClaimSeven
namespace Go.Proofs.YtplfmnkmlaolpaaGreatDoor
namespace Rows

/-- THE TIED CARD OF 'bellwrightlaw.ObjChecks'. -/
def objChecksCard : Claim7 := { stood := { row := objChecksRow, standIns := [], harness := (true, "5a166ffcf835d41542e99ae93313ab631bec07cd8108adfcd69132d040416551"), looks := true }, kinds := [], alts := [], laidByText := true, laidKinds := [.data, .data, .data, .sentinel, .sentinel], laidTests := true, laidLooks := .later }
def ObjChecksCardSaid : Prop := Claim7.holds Tryz.pinned (.plain (OpenSpec.ofChange objChecksSpec)) objChecksCard

/-- THE TIED CARD OF 'bellwrightlaw.ObjWrites'. -/
def objWritesCard : Claim7 := { stood := { row := objWritesRow, standIns := [], harness := (true, "5a166ffcf835d41542e99ae93313ab631bec07cd8108adfcd69132d040416551"), looks := true }, kinds := [], alts := [], laidByText := true, laidKinds := [.data, .data, .data, .sentinel, .sentinel], laidTests := true, laidLooks := .later }
def ObjWritesCardSaid : Prop := Claim7.holds Tryz.pinned (.plain (OpenSpec.ofChange objWritesSpec)) objWritesCard

/-- THE TIED CARD OF 'bellwrightlaw.ObjBack'. -/
def objBackCard : Claim7 := { stood := { row := objBackRow, standIns := [], harness := (true, "5a166ffcf835d41542e99ae93313ab631bec07cd8108adfcd69132d040416551"), looks := true }, kinds := [], alts := [], laidByText := true, laidKinds := [.data, .data, .data, .sentinel, .sentinel], laidTests := true, laidLooks := .later }
def ObjBackCardSaid : Prop := Claim7.holds Tryz.pinned (.plain (OpenSpec.ofChange objBackSpec)) objBackCard

/-- THE TIED CARD OF 'bellwrightlaw.LinkLinks'. -/
def linkLinksCard : Claim7 := { stood := { row := linkLinksRow, standIns := [], harness := (true, "5a166ffcf835d41542e99ae93313ab631bec07cd8108adfcd69132d040416551"), looks := true }, kinds := [], alts := [], laidByText := true, laidKinds := [.data, .data, .data, .sentinel, .sentinel], laidTests := true, laidLooks := .later }
def LinkLinksCardSaid : Prop := Claim7.holds Tryz.pinned (.plain (OpenSpec.ofChange linkLinksSpec)) linkLinksCard

/-- THE TIED CARD OF 'bellwrightlaw.LinkRight'. -/
def linkRightCard : Claim7 := { stood := { row := linkRightRow, standIns := [], harness := (true, "5a166ffcf835d41542e99ae93313ab631bec07cd8108adfcd69132d040416551"), looks := true }, kinds := [], alts := [], laidByText := true, laidKinds := [.data, .data, .data, .sentinel, .sentinel], laidTests := true, laidLooks := .later }
def LinkRightCardSaid : Prop := Claim7.holds Tryz.pinned (.plain (OpenSpec.ofChange linkRightSpec)) linkRightCard

/-- THE TIED CARD OF 'bellwrightlaw.LinkSame'. -/
def linkSameCard : Claim7 := { stood := { row := linkSameRow, standIns := [], harness := (true, "5a166ffcf835d41542e99ae93313ab631bec07cd8108adfcd69132d040416551"), looks := true }, kinds := [], alts := [], laidByText := true, laidKinds := [.data, .data, .data, .sentinel, .sentinel], laidTests := true, laidLooks := .later }
def LinkSameCardSaid : Prop := Claim7.holds Tryz.pinned (.plain (OpenSpec.ofChange linkSameSpec)) linkSameCard

/-- THE SECOND FORM's CARD OF 'bellwrightlaw.ObjChecks'. -/
def objChecksUptoCard : Claim7 := { stood := { row := objChecksUptoRow, standIns := [], harness := (true, "5a166ffcf835d41542e99ae93313ab631bec07cd8108adfcd69132d040416551"), looks := true }, kinds := [], alts := [], laidByText := true, laidKinds := [.data, .data, .data, .sentinel, .sentinel], laidTests := true, laidLooks := .later }
def ObjChecksUptoCardSaid : Prop := Claim7.holds Tryz.pinned (.plain (OpenSpec.upto objChecksSpec)) objChecksUptoCard

/-- THE SECOND FORM's CARD OF 'bellwrightlaw.ObjWrites'. -/
def objWritesUptoCard : Claim7 := { stood := { row := objWritesUptoRow, standIns := [], harness := (true, "5a166ffcf835d41542e99ae93313ab631bec07cd8108adfcd69132d040416551"), looks := true }, kinds := [], alts := [], laidByText := true, laidKinds := [.data, .data, .data, .sentinel, .sentinel], laidTests := true, laidLooks := .later }
def ObjWritesUptoCardSaid : Prop := Claim7.holds Tryz.pinned (.plain (OpenSpec.upto objWritesSpec)) objWritesUptoCard

/-- THE SECOND FORM's CARD OF 'bellwrightlaw.ObjBack'. -/
def objBackUptoCard : Claim7 := { stood := { row := objBackUptoRow, standIns := [], harness := (true, "5a166ffcf835d41542e99ae93313ab631bec07cd8108adfcd69132d040416551"), looks := true }, kinds := [], alts := [], laidByText := true, laidKinds := [.data, .data, .data, .sentinel, .sentinel], laidTests := true, laidLooks := .later }
def ObjBackUptoCardSaid : Prop := Claim7.holds Tryz.pinned (.plain (OpenSpec.upto objBackSpec)) objBackUptoCard

/-- THE SECOND FORM's CARD OF 'bellwrightlaw.LinkLinks'. -/
def linkLinksUptoCard : Claim7 := { stood := { row := linkLinksUptoRow, standIns := [], harness := (true, "5a166ffcf835d41542e99ae93313ab631bec07cd8108adfcd69132d040416551"), looks := true }, kinds := [], alts := [], laidByText := true, laidKinds := [.data, .data, .data, .sentinel, .sentinel], laidTests := true, laidLooks := .later }
def LinkLinksUptoCardSaid : Prop := Claim7.holds Tryz.pinned (.plain (OpenSpec.upto linkLinksSpec)) linkLinksUptoCard

/-- THE SECOND FORM's CARD OF 'bellwrightlaw.LinkRight'. -/
def linkRightUptoCard : Claim7 := { stood := { row := linkRightUptoRow, standIns := [], harness := (true, "5a166ffcf835d41542e99ae93313ab631bec07cd8108adfcd69132d040416551"), looks := true }, kinds := [], alts := [], laidByText := true, laidKinds := [.data, .data, .data, .sentinel, .sentinel], laidTests := true, laidLooks := .later }
def LinkRightUptoCardSaid : Prop := Claim7.holds Tryz.pinned (.plain (OpenSpec.upto linkRightSpec)) linkRightUptoCard

/-- THE SECOND FORM's CARD OF 'bellwrightlaw.LinkSame'. -/
def linkSameUptoCard : Claim7 := { stood := { row := linkSameUptoRow, standIns := [], harness := (true, "5a166ffcf835d41542e99ae93313ab631bec07cd8108adfcd69132d040416551"), looks := true }, kinds := [], alts := [], laidByText := true, laidKinds := [.data, .data, .data, .sentinel, .sentinel], laidTests := true, laidLooks := .later }
def LinkSameUptoCardSaid : Prop := Claim7.holds Tryz.pinned (.plain (OpenSpec.upto linkSameSpec)) linkSameUptoCard
end Rows
end Go.Proofs.YtplfmnkmlaolpaaGreatDoor
