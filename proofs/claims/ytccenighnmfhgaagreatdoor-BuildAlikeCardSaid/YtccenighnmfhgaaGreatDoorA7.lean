/- BuildAlike: Build tells the same image, in whatever order the texts are. -/
import Derived.Deep.DeepHandedRow
import Derived.Deep.DeepWitnessRowRef
import Derived.LaidMore
import Derived.Lib.LaidTab
import Derived.OpenShut
import Derived.ProofKit
import Derived.SevenTiedAt
import Derived.Stop.Joined
import Derived.Stop.LaidErr
import Derived.Test.YtccenighnmfhgaaGreatDoorCards
import Derived.Test.YtccenighnmfhgaaGreatDoorTie
import Derived.Test.YtccenighnmfhgaaGreatDoorA6
set_option linter.unusedVariables false
set_option linter.unusedSimpArgs false
section
namespace Go.Proofs.YtccenighnmfhgaaGreatDoor
open Go.Bw
open Go.ChangeShapes Go.WideShapes Go.ChangeAt Go.RowKit Go.Joins Go.Deep
def ayg (H:Type):E1 H:=⟨Rows.uptoBulk,Rows.uptoBulkAll,λl=>by simp [Rows.uptoBulk],λl=>by simp [Rows.uptoBulk],λl r=>by simp only [Rows.uptoBulk]; omega,by simp [Rows.uptoBulkAll],λd r=>by simp [Rows.uptoBulkAll]⟩
theorem own:ownKnob Tryz.prog.godebug=none:=by kernel_rfl
theorem laidOut:laidOutB Tryz.prog=true:=by kernel_rfl
theorem ayh:(Tryz.prog.globals[3]?).map (·.type)=some 363:=by kernel_rfl
theorem ayi:(Tryz.prog.globals[1]?).map (·.type)=some 246:=by kernel_rfl
theorem ayj:(Tryz.prog.globals[0]?).map (·.type)=some 246:=by kernel_rfl
theorem ae4 : Tryz.prog.globalNamed "strconv.ErrRange" = some 1 := by kernel_rfl
theorem ae5 : Tryz.prog.globalNamed "strconv.ErrSyntax" = some 0 := by kernel_rfl
theorem ayk:Tryz.prog.cellsOf 363=20:=by kernel_rfl
theorem ayl:Tryz.prog.cellsOf 305=1:=by kernel_rfl
theorem ae6:Tryz.prog.cellsOf 361=1:=by kernel_rfl
theorem ae7:Tryz.prog.cellsOf 9=1:=by kernel_rfl
theorem ae8 (u:TypeId) (h:Tryz.prog.typeName? 3 u=Tryz.prog.typeName? 3 359):u=359:=
 typeName_ptr_named (P := Tryz.prog) (nm := "errors.errorString") (by kernel_rfl) (by kernel_rfl) (by decide) u (h.trans (by kernel_rfl))
theorem aym {W:World} (h:laidMetH Tryz.prog Rows.buildAlikeRow.laid W):Laid (hv W):=by
 rw [MakeChecks.laidMetH_plain _ _ _ (by kernel_rfl)] at h;have h3:=h.tail.tail;have ht:Lib.TabIs Tryz.prog W Zg .u64 Lib.pow10Tab:=Lib.tabIs_of_head (k:=.u64) (zs:=Lib.pow10Tab) Qf ayh Tryz.underlying363 Tryz.underlying305 ayl ayk h3;obtain ⟨a1,s1,D1,_⟩:=laid_sentinel h3.tail ae4 ayi Tryz.underlying246 (λu hu=>ae8 u (hu.trans (by kernel_rfl))) Tryz.underlying359 Tryz.underlying361 rfl rfl Tryz.underlying9 ae6 ae7;obtain ⟨a2,s2,Ir,_⟩:=laid_sentinel h3.tail.tail ae5 ayj Tryz.underlying246 (λu hu=>ae8 u (hu.trans (by kernel_rfl))) Tryz.underlying359 Tryz.underlying361 rfl rfl Tryz.underlying9 ae6 ae7;exact ⟨agC ht Qf,⟨_,N4 (by simpa using World.var?_cell ae5 Ir 0),.inr ⟨_,_,O⟩⟩,⟨_,N4 (by simpa using World.var?_cell ae4 D1 0),.inr ⟨_,_,O⟩⟩⟩
theorem ayn (os:Os) (args:Array Value):laidMetH Tryz.prog Rows.buildAlikeRow.laid ((World.doorLaid Tryz.prog 62 os).forCall (λ_ _=>0) ⟨#[],args,[]⟩).memory:=
 laidMetH_of_parts3 (fuel:=8) (laidMet_of_run' 8 (by kernel_rfl) (by kernel_rfl)) (by kernel_rfl) (by kernel_rfl)
end Go.Proofs.YtccenighnmfhgaaGreatDoor
end
