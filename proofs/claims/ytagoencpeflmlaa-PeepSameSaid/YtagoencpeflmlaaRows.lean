/-
  No cell of these rows narrows 'for every input' (looked for: loops, veiled, ifaces, maps, wideKeys, modest, calm, conditions, laid).
  DERIVED. THE GIVEN ROWS OF THIS SEAT. 6 by the template 'for every input the law returns true; each argument reads behind the call as it read before'; 0 by the template 'total and deterministic' (their statements: YtagoencpeflmlaaTotals.lean).
  GIVEN WITH THE SEED: the statements are not yours to turn. If you find one false, say at which input.
  Laid BY PROGRAM, IN A SANDBOX (cutbox-rows.mjs): the forced cells as the released guide's own fill.sh prints them over the translation 3aee8058f50cdd2f… (all of the seat's roots in one cut). By AI agents, Wed Nov 11 2026. No macro, syntax, notation, axiom, sorry.
-/
import Derived.Test.YtagoencpeflmlaaChecked
import GoSem.Claim
import GoSem.ClaimJoined
import GoSem.ClaimMapViews
import Derived.JoinedTies
import Derived.KernelRfl
namespace Go.Proofs.Ytagoencpeflmlaa
/- THE CELL 'sum', in the pinned program and in every row, IS THE sha256 OF THE DUMP (.gsa) THAT YtagoencpeflmlaaProg.lean LOADS. Nothing in Lean hashes anything: it is a label: what it is worth is what the hold of that sum in a sandbox is worth. -/
noncomputable def Try.pinned : Pinned := { name := "ytagoencpeflmlaa", sum := "3aee8058f50cdd2f21c59901e60ad0cda136facae39b2633d515005a01da8fbc", checked := Try.checked }
namespace Rows
def none {H : Type} : Left H := { results := [], args := [] }

/-- 'bellwrightlaw.PeepTells': WHATEVER THE INPUT: true; the input reads as it did. -/
def peepTellsSpec : ChangeSpec := { name := "peepTells", fn := fun _ => fun
  | [d] => { results := [.lit (.bool true)], args := [d] }
  | _ => none }
def peepTellsRow : OpenClaim := { program := "ytagoencpeflmlaa", sum := "3aee8058f50cdd2f21c59901e60ad0cda136facae39b2633d515005a01da8fbc", func := "bellwright/bellwrightlaw.PeepTells", spec := "peepTells", unfollowed := true, recurses := true, apart := false }
def PeepTellsSaid : Prop := peepTellsRow.holds Try.pinned (OpenSpec.ofChange peepTellsSpec)

/-- ITS FALSE NEIGHBOUR: 'it returns false'. Refute it at one input. -/
def peepTellsWrong : ChangeSpec := { name := "peepTells", fn := fun _ => fun
  | [d] => { results := [.lit (.bool false)], args := [d] }
  | _ => none }
def PeepTellsWrongFalsely : Prop := peepTellsRow.holds Try.pinned (OpenSpec.ofChange peepTellsWrong)

/-- 'bellwrightlaw.FaceWrites': WHATEVER THE INPUT: true; the input reads as it did. -/
def faceWritesSpec : ChangeSpec := { name := "faceWrites", fn := fun _ => fun
  | [d1, d2] => { results := [.lit (.bool true)], args := [d1, d2] }
  | _ => none }
def faceWritesRow : OpenClaim := { program := "ytagoencpeflmlaa", sum := "3aee8058f50cdd2f21c59901e60ad0cda136facae39b2633d515005a01da8fbc", func := "bellwright/bellwrightlaw.FaceWrites", spec := "faceWrites", inPlace := ["internal/abi.NoEscape"], unfollowed := true, recurses := true, apart := false }
def FaceWritesSaid : Prop := faceWritesRow.holds Try.pinned (OpenSpec.ofChange faceWritesSpec)

/-- ITS FALSE NEIGHBOUR: 'it returns false'. Refute it at one input. -/
def faceWritesWrong : ChangeSpec := { name := "faceWrites", fn := fun _ => fun
  | [d1, d2] => { results := [.lit (.bool false)], args := [d1, d2] }
  | _ => none }
def FaceWritesWrongFalsely : Prop := faceWritesRow.holds Try.pinned (OpenSpec.ofChange faceWritesWrong)

/-- 'bellwrightlaw.FaceBack': WHATEVER THE INPUT: true; the input reads as it did. -/
def faceBackSpec : ChangeSpec := { name := "faceBack", fn := fun _ => fun
  | [d1, d2] => { results := [.lit (.bool true)], args := [d1, d2] }
  | _ => none }
def faceBackRow : OpenClaim := { program := "ytagoencpeflmlaa", sum := "3aee8058f50cdd2f21c59901e60ad0cda136facae39b2633d515005a01da8fbc", func := "bellwright/bellwrightlaw.FaceBack", spec := "faceBack", inPlace := ["internal/abi.NoEscape"], unfollowed := true, recurses := true, apart := false }
def FaceBackSaid : Prop := faceBackRow.holds Try.pinned (OpenSpec.ofChange faceBackSpec)

/-- ITS FALSE NEIGHBOUR: 'it returns false'. Refute it at one input. -/
def faceBackWrong : ChangeSpec := { name := "faceBack", fn := fun _ => fun
  | [d1, d2] => { results := [.lit (.bool false)], args := [d1, d2] }
  | _ => none }
def FaceBackWrongFalsely : Prop := faceBackRow.holds Try.pinned (OpenSpec.ofChange faceBackWrong)

/-- 'bellwrightlaw.MachRuns': WHATEVER THE INPUT: true; the input reads as it did. -/
def machRunsSpec : ChangeSpec := { name := "machRuns", fn := fun _ => fun
  | [d1, d2, d3, d4] => { results := [.lit (.bool true)], args := [d1, d2, d3, d4] }
  | _ => none }
def machRunsRow : OpenClaim := { program := "ytagoencpeflmlaa", sum := "3aee8058f50cdd2f21c59901e60ad0cda136facae39b2633d515005a01da8fbc", func := "bellwright/bellwrightlaw.MachRuns", spec := "machRuns", unfollowed := true, recurses := true, apart := false }
def MachRunsSaid : Prop := machRunsRow.holds Try.pinned (OpenSpec.ofChange machRunsSpec)

/-- ITS FALSE NEIGHBOUR: 'it returns false'. Refute it at one input. -/
def machRunsWrong : ChangeSpec := { name := "machRuns", fn := fun _ => fun
  | [d1, d2, d3, d4] => { results := [.lit (.bool false)], args := [d1, d2, d3, d4] }
  | _ => none }
def MachRunsWrongFalsely : Prop := machRunsRow.holds Try.pinned (OpenSpec.ofChange machRunsWrong)

/-- 'bellwrightlaw.MachMore': WHATEVER THE INPUT: true; the input reads as it did. -/
def machMoreSpec : ChangeSpec := { name := "machMore", fn := fun _ => fun
  | [d1, d2, d3, d4, d5] => { results := [.lit (.bool true)], args := [d1, d2, d3, d4, d5] }
  | _ => none }
def machMoreRow : OpenClaim := { program := "ytagoencpeflmlaa", sum := "3aee8058f50cdd2f21c59901e60ad0cda136facae39b2633d515005a01da8fbc", func := "bellwright/bellwrightlaw.MachMore", spec := "machMore", unfollowed := true, recurses := true, apart := false }
def MachMoreSaid : Prop := machMoreRow.holds Try.pinned (OpenSpec.ofChange machMoreSpec)

/-- ITS FALSE NEIGHBOUR: 'it returns false'. Refute it at one input. -/
def machMoreWrong : ChangeSpec := { name := "machMore", fn := fun _ => fun
  | [d1, d2, d3, d4, d5] => { results := [.lit (.bool false)], args := [d1, d2, d3, d4, d5] }
  | _ => none }
def MachMoreWrongFalsely : Prop := machMoreRow.holds Try.pinned (OpenSpec.ofChange machMoreWrong)

/-- 'bellwrightlaw.PeepSame': WHATEVER THE INPUT: true; the input reads as it did. -/
def peepSameSpec : ChangeSpec := { name := "peepSame", fn := fun _ => fun
  | [d1, d2, d3, d4] => { results := [.lit (.bool true)], args := [d1, d2, d3, d4] }
  | _ => none }
def peepSameRow : OpenClaim := { program := "ytagoencpeflmlaa", sum := "3aee8058f50cdd2f21c59901e60ad0cda136facae39b2633d515005a01da8fbc", func := "bellwright/bellwrightlaw.PeepSame", spec := "peepSame", unfollowed := true, recurses := true, apart := false }
def PeepSameSaid : Prop := peepSameRow.holds Try.pinned (OpenSpec.ofChange peepSameSpec)

/-- ITS FALSE NEIGHBOUR: 'it returns false'. Refute it at one input. -/
def peepSameWrong : ChangeSpec := { name := "peepSame", fn := fun _ => fun
  | [d1, d2, d3, d4] => { results := [.lit (.bool false)], args := [d1, d2, d3, d4] }
  | _ => none }
def PeepSameWrongFalsely : Prop := peepSameRow.holds Try.pinned (OpenSpec.ofChange peepSameWrong)

/- THE SECOND FORM. 'bulk': how many values and letters a reading holds, each counted each time it is reached (what is shared counts as often as it is met; a slice's spare places count too). A statement '..UptoSaid' is the law's where the arguments, and the package variables that the reading takes, are together of bulk at most 1048576: NARROWER than '..Said'. Prove '..Said' where nothing that the law and all that it calls make is longer than what came in: it says more and counts as full. Else prove '..UptoSaid'. A law counts once. -/
mutual
def uptoBulk {H : Type} : DataW H → Nat
  | .lit (.string bytes) => bytes.length + 1
  | .lit _ => 1
  | .nil => 1
  | .ptr d => uptoBulk d + 1
  | .slice elems spare => uptoBulkAll elems + uptoBulkAll spare + 1
  | .agg parts => uptoBulkAll parts + 1
  | .iface _ d => uptoBulk d + 1
  | .map entries => uptoBulkEntries entries + 1
  | .held _ => 1
def uptoBulkAll {H : Type} : List (DataW H) → Nat
  | [] => 0
  | d :: r => uptoBulk d + uptoBulkAll r
def uptoBulkEntries {H : Type} : List (Lit × DataW H) → Nat
  | [] => 0
  | x :: r => uptoBulkEntry x + uptoBulkEntries r
def uptoBulkEntry {H : Type} : Lit × DataW H → Nat
  | (.string bytes, d) => bytes.length + uptoBulk d + 1
  | (_, d) => uptoBulk d + 1
 end
def uptoSmall : (H : Type) → List (DataW H) → Bool := fun _ ds => decide (uptoBulkAll ds ≤ 1048576)
def OpenSpec.upto (s : _root_.Go.ChangeSpec) : _root_.Go.OpenSpec := { _root_.Go.OpenSpec.ofChange s with cond := some uptoSmall }

/-- 'bellwrightlaw.PeepTells', WHERE WHAT IT READS IS OF BULK AT MOST 1048576: true; the input reads as it did. -/
def peepTellsUptoRow : OpenClaim := { program := "ytagoencpeflmlaa", sum := "3aee8058f50cdd2f21c59901e60ad0cda136facae39b2633d515005a01da8fbc", func := "bellwright/bellwrightlaw.PeepTells", spec := "peepTells", unfollowed := true, recurses := true, apart := false, narrowed := true }
def PeepTellsUptoSaid : Prop := peepTellsUptoRow.holds Try.pinned (OpenSpec.upto peepTellsSpec)

/-- 'bellwrightlaw.FaceWrites', WHERE WHAT IT READS IS OF BULK AT MOST 1048576: true; the input reads as it did. -/
def faceWritesUptoRow : OpenClaim := { program := "ytagoencpeflmlaa", sum := "3aee8058f50cdd2f21c59901e60ad0cda136facae39b2633d515005a01da8fbc", func := "bellwright/bellwrightlaw.FaceWrites", spec := "faceWrites", inPlace := ["internal/abi.NoEscape"], unfollowed := true, recurses := true, apart := false, narrowed := true }
def FaceWritesUptoSaid : Prop := faceWritesUptoRow.holds Try.pinned (OpenSpec.upto faceWritesSpec)

/-- 'bellwrightlaw.FaceBack', WHERE WHAT IT READS IS OF BULK AT MOST 1048576: true; the input reads as it did. -/
def faceBackUptoRow : OpenClaim := { program := "ytagoencpeflmlaa", sum := "3aee8058f50cdd2f21c59901e60ad0cda136facae39b2633d515005a01da8fbc", func := "bellwright/bellwrightlaw.FaceBack", spec := "faceBack", inPlace := ["internal/abi.NoEscape"], unfollowed := true, recurses := true, apart := false, narrowed := true }
def FaceBackUptoSaid : Prop := faceBackUptoRow.holds Try.pinned (OpenSpec.upto faceBackSpec)

/-- 'bellwrightlaw.MachRuns', WHERE WHAT IT READS IS OF BULK AT MOST 1048576: true; the input reads as it did. -/
def machRunsUptoRow : OpenClaim := { program := "ytagoencpeflmlaa", sum := "3aee8058f50cdd2f21c59901e60ad0cda136facae39b2633d515005a01da8fbc", func := "bellwright/bellwrightlaw.MachRuns", spec := "machRuns", unfollowed := true, recurses := true, apart := false, narrowed := true }
def MachRunsUptoSaid : Prop := machRunsUptoRow.holds Try.pinned (OpenSpec.upto machRunsSpec)

/-- 'bellwrightlaw.MachMore', WHERE WHAT IT READS IS OF BULK AT MOST 1048576: true; the input reads as it did. -/
def machMoreUptoRow : OpenClaim := { program := "ytagoencpeflmlaa", sum := "3aee8058f50cdd2f21c59901e60ad0cda136facae39b2633d515005a01da8fbc", func := "bellwright/bellwrightlaw.MachMore", spec := "machMore", unfollowed := true, recurses := true, apart := false, narrowed := true }
def MachMoreUptoSaid : Prop := machMoreUptoRow.holds Try.pinned (OpenSpec.upto machMoreSpec)

/-- 'bellwrightlaw.PeepSame', WHERE WHAT IT READS IS OF BULK AT MOST 1048576: true; the input reads as it did. -/
def peepSameUptoRow : OpenClaim := { program := "ytagoencpeflmlaa", sum := "3aee8058f50cdd2f21c59901e60ad0cda136facae39b2633d515005a01da8fbc", func := "bellwright/bellwrightlaw.PeepSame", spec := "peepSame", unfollowed := true, recurses := true, apart := false, narrowed := true }
def PeepSameUptoSaid : Prop := peepSameUptoRow.holds Try.pinned (OpenSpec.upto peepSameSpec)

end Rows
end Go.Proofs.Ytagoencpeflmlaa
