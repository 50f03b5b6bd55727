/-
  NARROWER THAN 'FOR EVERY INPUT', by the rows' own cells (each row's printed sentence says how): OrderTells: loops · OrderTrue: loops · OrderNeeds: loops.
  DERIVED. THE GIVEN ROWS OF THIS SEAT. 3 by the template 'for every input the law returns true; each argument reads behind the call as it read before'; 0 by the template 'total and deterministic' (their statements: YtinnlppbkhhoiaaTotals.lean).
  GIVEN WITH THE SEED: the statements are not yours to turn. If you find one false, say at which input.
  Laid BY PROGRAM, IN A SANDBOX (cutbox-rows.mjs): the forced cells as the released guide's own fill.sh prints them over the translation e63db06d13473968… (all of the seat's roots in one cut). By AI agents, Wed Nov 11 2026. No macro, syntax, notation, axiom, sorry.
-/
import Derived.Test.YtinnlppbkhhoiaaChecked
import GoSem.Claim
import GoSem.ClaimJoined
import GoSem.ClaimMapViews
import Derived.JoinedTies
import Derived.KernelRfl
namespace Go.Proofs.Ytinnlppbkhhoiaa
/- THE CELL 'sum', in the pinned program and in every row, IS THE sha256 OF THE DUMP (.gsa) THAT YtinnlppbkhhoiaaProg.lean LOADS. Nothing in Lean hashes anything: it is a label: what it is worth is what the hold of that sum in a sandbox is worth. -/
noncomputable def Try.pinned : Pinned := { name := "ytinnlppbkhhoiaa", sum := "e63db06d13473968068ae0d4e9b275f1963d0283f7bb56f53f800f26798698fe", checked := Try.checked }
namespace Rows
def none {H : Type} : Left H := { results := [], args := [] }

/-- 'bellwrightlaw.OrderTells': WHATEVER THE INPUT: true; the input reads as it did. -/
def orderTellsSpec : ChangeSpec := { name := "orderTells", fn := fun _ => fun
  | [d1, d2] => { results := [.lit (.bool true)], args := [d1, d2] }
  | _ => none }
def orderTellsRow : OpenClaim := { program := "ytinnlppbkhhoiaa", sum := "e63db06d13473968068ae0d4e9b275f1963d0283f7bb56f53f800f26798698fe", func := "bellwright/bellwrightlaw.OrderTells", spec := "orderTells", unfollowed := true, recurses := true, loops := true, apart := false }
def OrderTellsSaid : Prop := orderTellsRow.holds Try.pinned (OpenSpec.ofChange orderTellsSpec)

/-- ITS FALSE NEIGHBOUR: 'it returns false'. Refute it at one input. -/
def orderTellsWrong : ChangeSpec := { name := "orderTells", fn := fun _ => fun
  | [d1, d2] => { results := [.lit (.bool false)], args := [d1, d2] }
  | _ => none }
def OrderTellsWrongFalsely : Prop := orderTellsRow.holds Try.pinned (OpenSpec.ofChange orderTellsWrong)

/-- 'bellwrightlaw.OrderTrue': WHATEVER THE INPUT: true; the input reads as it did. -/
def orderTrueSpec : ChangeSpec := { name := "orderTrue", fn := fun _ => fun
  | [d1, d2, d3] => { results := [.lit (.bool true)], args := [d1, d2, d3] }
  | _ => none }
def orderTrueRow : OpenClaim := { program := "ytinnlppbkhhoiaa", sum := "e63db06d13473968068ae0d4e9b275f1963d0283f7bb56f53f800f26798698fe", func := "bellwright/bellwrightlaw.OrderTrue", spec := "orderTrue", unfollowed := true, recurses := true, loops := true, apart := false }
def OrderTrueSaid : Prop := orderTrueRow.holds Try.pinned (OpenSpec.ofChange orderTrueSpec)

/-- ITS FALSE NEIGHBOUR: 'it returns false'. Refute it at one input. -/
def orderTrueWrong : ChangeSpec := { name := "orderTrue", fn := fun _ => fun
  | [d1, d2, d3] => { results := [.lit (.bool false)], args := [d1, d2, d3] }
  | _ => none }
def OrderTrueWrongFalsely : Prop := orderTrueRow.holds Try.pinned (OpenSpec.ofChange orderTrueWrong)

/-- 'bellwrightlaw.OrderNeeds': WHATEVER THE INPUT: true; the input reads as it did. -/
def orderNeedsSpec : ChangeSpec := { name := "orderNeeds", fn := fun _ => fun
  | [d1, d2, d3] => { results := [.lit (.bool true)], args := [d1, d2, d3] }
  | _ => none }
def orderNeedsRow : OpenClaim := { program := "ytinnlppbkhhoiaa", sum := "e63db06d13473968068ae0d4e9b275f1963d0283f7bb56f53f800f26798698fe", func := "bellwright/bellwrightlaw.OrderNeeds", spec := "orderNeeds", unfollowed := true, recurses := true, loops := true, apart := false }
def OrderNeedsSaid : Prop := orderNeedsRow.holds Try.pinned (OpenSpec.ofChange orderNeedsSpec)

/-- ITS FALSE NEIGHBOUR: 'it returns false'. Refute it at one input. -/
def orderNeedsWrong : ChangeSpec := { name := "orderNeeds", fn := fun _ => fun
  | [d1, d2, d3] => { results := [.lit (.bool false)], args := [d1, d2, d3] }
  | _ => none }
def OrderNeedsWrongFalsely : Prop := orderNeedsRow.holds Try.pinned (OpenSpec.ofChange orderNeedsWrong)

/- THE SECOND FORM. 'bulk': how many values and letters a reading holds, each counted each time it is reached (what is shared counts as often as it is met; a slice's spare places count too). A statement '..UptoSaid' is the law's where the arguments, and the package variables that the reading takes, are together of bulk at most 1048576: NARROWER than '..Said'. Prove '..Said' where nothing that the law and all that it calls make is longer than what came in: it says more and counts as full. Else prove '..UptoSaid'. A law counts once. -/
mutual
def uptoBulk {H : Type} : DataW H → Nat
  | .lit (.string bytes) => bytes.length + 1
  | .lit _ => 1
  | .nil => 1
  | .ptr d => uptoBulk d + 1
  | .slice elems spare => uptoBulkAll elems + uptoBulkAll spare + 1
  | .agg parts => uptoBulkAll parts + 1
  | .iface _ d => uptoBulk d + 1
  | .map entries => uptoBulkEntries entries + 1
  | .held _ => 1
def uptoBulkAll {H : Type} : List (DataW H) → Nat
  | [] => 0
  | d :: r => uptoBulk d + uptoBulkAll r
def uptoBulkEntries {H : Type} : List (Lit × DataW H) → Nat
  | [] => 0
  | x :: r => uptoBulkEntry x + uptoBulkEntries r
def uptoBulkEntry {H : Type} : Lit × DataW H → Nat
  | (.string bytes, d) => bytes.length + uptoBulk d + 1
  | (_, d) => uptoBulk d + 1
 end
def uptoSmall : (H : Type) → List (DataW H) → Bool := fun _ ds => decide (uptoBulkAll ds ≤ 1048576)
def OpenSpec.upto (s : _root_.Go.ChangeSpec) : _root_.Go.OpenSpec := { _root_.Go.OpenSpec.ofChange s with cond := some uptoSmall }

/-- 'bellwrightlaw.OrderTells', WHERE WHAT IT READS IS OF BULK AT MOST 1048576: true; the input reads as it did. -/
def orderTellsUptoRow : OpenClaim := { program := "ytinnlppbkhhoiaa", sum := "e63db06d13473968068ae0d4e9b275f1963d0283f7bb56f53f800f26798698fe", func := "bellwright/bellwrightlaw.OrderTells", spec := "orderTells", unfollowed := true, recurses := true, loops := true, apart := false, narrowed := true }
def OrderTellsUptoSaid : Prop := orderTellsUptoRow.holds Try.pinned (OpenSpec.upto orderTellsSpec)

/-- 'bellwrightlaw.OrderTrue', WHERE WHAT IT READS IS OF BULK AT MOST 1048576: true; the input reads as it did. -/
def orderTrueUptoRow : OpenClaim := { program := "ytinnlppbkhhoiaa", sum := "e63db06d13473968068ae0d4e9b275f1963d0283f7bb56f53f800f26798698fe", func := "bellwright/bellwrightlaw.OrderTrue", spec := "orderTrue", unfollowed := true, recurses := true, loops := true, apart := false, narrowed := true }
def OrderTrueUptoSaid : Prop := orderTrueUptoRow.holds Try.pinned (OpenSpec.upto orderTrueSpec)

/-- 'bellwrightlaw.OrderNeeds', WHERE WHAT IT READS IS OF BULK AT MOST 1048576: true; the input reads as it did. -/
def orderNeedsUptoRow : OpenClaim := { program := "ytinnlppbkhhoiaa", sum := "e63db06d13473968068ae0d4e9b275f1963d0283f7bb56f53f800f26798698fe", func := "bellwright/bellwrightlaw.OrderNeeds", spec := "orderNeeds", unfollowed := true, recurses := true, loops := true, apart := false, narrowed := true }
def OrderNeedsUptoSaid : Prop := orderNeedsUptoRow.holds Try.pinned (OpenSpec.upto orderNeedsSpec)

end Rows
end Go.Proofs.Ytinnlppbkhhoiaa
