/- Walks of the lexer, of the document's answer and of the laws, and plain laws on what they compute; each theorem tells its own conditions. -/
import Derived.Test.YtcjloelhjnnhmaaDoorCards
import Derived.Test.YtcjloelhjnnhmaaDoorTie
import Derived.ProofKit
import Derived.LaidMore
import Derived.OpenShut
import Derived.Stop.Joined
import Derived.Stop.LaidErr
import Derived.SevenTiedAt
import Derived.Lib.LaidTab
import Derived.Test.YtcjloelhjnnhmaaDoorBw20
import Derived.Test.YtcjloelhjnnhmaaDoorBwL5
namespace Go.Proofs.YtcjloelhjnnhmaaDoor
open Go.Bw
set_option linter.unusedVariables false
set_option linter.unusedSimpArgs false
open Go.ChangeShapes Go.WideShapes Go.ChangeAt Go.RowKit Go.Joins Go.Deep
theorem conv_Tok (cs : List Value) (hl : cs.length = 3) (hf : ∀ (j : Nat) (s : Sh) (v : Value), ([.int, .int, .str] : List Sh)[j]? = some s → cs[j]? = some v → s.fit v) : ∃ y : Bw.Tok, cs = Bw.Tok.cells y := by
  match cs, hl with
  | [c0, c1, c2], _ =>
    obtain ⟨x0, rfl, _⟩ := hf 0 _ _ rfl rfl
    obtain ⟨x1, rfl, _⟩ := hf 1 _ _ rfl rfl
    obtain ⟨x2, rfl, _⟩ := hf 2 _ _ rfl rfl
    exact ⟨⟨x0, x1, x2⟩, rfl⟩

theorem own : ownKnob Tryd.prog.godebug = none := by kernel_rfl
theorem laidOut : laidOutB Tryd.prog = true := by kernel_rfl
theorem tPow : (Tryd.prog.globals[0]?).map (·.type) = some 81 := by kernel_rfl
theorem tRng : (Tryd.prog.globals[3]?).map (·.type) = some 56 := by kernel_rfl
theorem tSyn : (Tryd.prog.globals[2]?).map (·.type) = some 56 := by kernel_rfl
theorem nRng : Tryd.prog.globalNamed "strconv.ErrRange" = some 3 := by kernel_rfl
theorem nSyn : Tryd.prog.globalNamed "strconv.ErrSyntax" = some 2 := by kernel_rfl
theorem cPow : Tryd.prog.cellsOf 81 = 20 := by kernel_rfl
theorem cU64 : Tryd.prog.cellsOf 65 = 1 := by kernel_rfl
theorem cErr : Tryd.prog.cellsOf 97 = 1 := by kernel_rfl
theorem cStr : Tryd.prog.cellsOf 9 = 1 := by kernel_rfl
theorem rowErr (u : TypeId) (h : Tryd.prog.typeName? 3 u = Tryd.prog.typeName? 3 95) : u = 95 :=
  typeName_ptr_named (P := Tryd.prog) (nm := "errors.errorString") (by kernel_rfl) (by kernel_rfl) (by decide) u (h.trans (by kernel_rfl))
theorem laidv_of {W : World} (h : laidMetH Tryd.prog Rows.lexChecksRow.laid W) : Laid (hv W) := by
  rw [MakeChecks.laidMetH_plain _ _ _ (by kernel_rfl)] at h
  have h3 := h.tail.tail
  have ht : Lib.TabIs Tryd.prog W powNm .u64 Lib.pow10Tab := Lib.tabIs_of_head (k := .u64) (zs := Lib.pow10Tab) powName tPow Tryd.underlying81 Tryd.underlying65 cU64 cPow h3
  obtain ⟨a1, s1, hv1, _⟩ := laid_sentinel h3.tail nRng tRng Tryd.underlying56 (fun u hu => rowErr u (hu.trans (by kernel_rfl))) Tryd.underlying95 Tryd.underlying97 rfl rfl Tryd.underlying9 cErr cStr
  obtain ⟨a2, s2, hv2, _⟩ := laid_sentinel h3.tail.tail nSyn tSyn Tryd.underlying56 (fun u hu => rowErr u (hu.trans (by kernel_rfl))) Tryd.underlying95 Tryd.underlying97 rfl rfl Tryd.underlying9 cErr cStr
  exact ⟨pow_of ht powName, ⟨_, vc_of_cell' (by simpa using World.var?_cell nSyn hv2 0), .inr ⟨_, _, rfl⟩⟩, ⟨_, vc_of_cell' (by simpa using World.var?_cell nRng hv1 0), .inr ⟨_, _, rfl⟩⟩⟩
theorem door_met (os : Os) (args : Array Value) : laidMetH Tryd.prog Rows.lexChecksRow.laid ((World.doorLaid Tryd.prog 62 os).forCall (fun _ _ => 0) ⟨#[], args, []⟩).memory :=
  laidMetH_of_parts3 (fuel := 8) (laidMet_of_run' 8 (by kernel_rfl) (by kernel_rfl)) (by kernel_rfl) (by kernel_rfl)




end Go.Proofs.YtcjloelhjnnhmaaDoor
